/- Part 39. -/
import Derived.Test.YtcmflfkpeodicaaGreatIRA26
namespace Go.Proofs.YtcmflfkpeodicaaGreat
set_option maxHeartbeats 6400000
set_option linter.all false
open Go.RowKit
theorem aHP {w:World} {u v:Value} {xs ys:List Int} (hu:Ints w u xs) (hv:Ints w v ys):Calls Tryz.prog 131 #[u,v] w fun e w'=>e = .returned (.bool (decide (xs=ys)))/\Below w.heap.size w w':=by
 obtain ⟨a1,c1,b1,o1,rfl,hc1,hm1,ha1,hx⟩:=hu.parts
 obtain ⟨a2,c2,b2,o2,rfl,hc2,hm2,ha2,hy⟩:=hv.parts
 obtain ⟨n1,hn1⟩ : ∃ n,n=xs.length:=⟨_,rfl⟩
 obtain ⟨n2,hn2⟩ : ∃ n,n=ys.length:=⟨_,rfl⟩
 rw [<-hn1] at hc1 ha1 hx ⊢
 rw [<-hn2] at hc2 ha2 hy ⊢
 have G1:=h! hn1
 have G2:=h! hn2
 have HA1:=h! ha1
 have HA2:=h! ha2
 have HX:=h! hx
 have HY:=h! hy
 have HW:=h! (Below.refl w.heap.size w)
 clear hu hv hn1 hn2 ha1 ha2 hx hy
 by_cases hne:n1=n2
 ·subst hne
  go_enter Tryz.func131,Tryz.ntmps131
  go_wp2_with fail
  go_loopw [13] (fun i wr => ∃ k:Nat,k <= n1/\i = .int .i64 k/\(∀ j,j < k -> xs.getD j 0=ys.getD j 0)/\Below w.heap.size w wr) (fun i _=>n1 - (intOf i).toNat)
  case atStart=>exact ⟨0,aP _,rfl,fun j h=>absurd h (Nat.not_lt_zero _),HW.out⟩
  obtain ⟨k,hk,rfl,hs,hW⟩:=hrel
  have HS:=h! hs
  replace HW:=h! hW
  clear hs hW
  generalize wr=w3 at *
  by_cases hlt:k < n1
  ·obtain ⟨rfl,hb1⟩:=HA1.out (by omega)
   obtain ⟨rfl,hb2⟩:=HA2.out (by omega)
   have hxk:=(HW.out.cell (p:=⟨b1,o1+k,none⟩) hb1).trans (HX.out k hlt)
   have hyk:=(HW.out.cell (p:=⟨b2,o2+k,none⟩) hb2).trans (HY.out k hlt)
   obtain ⟨p,hp⟩ : ∃ p,p=xs.getD k 0:=⟨_,rfl⟩
   obtain ⟨q,hq⟩ : ∃ q,q=ys.getD k 0:=⟨_,rfl⟩
   rw [<-hp] at hxk
   rw [<-hq] at hyk
   have H3:=h! hp
   have H4:=h! hq
   clear hp hq
   cases hpq:(p != q)
   ·have HPQ:=h! hpq
    go_upto_region 6 with (fail)
    go_quiet (fail)
    go_wp2
    go_roundw
    case rel =>
     refine ⟨k+1,hlt,by go_num, ?_,eK HW.out _⟩
     intro j hj
     by_cases e:j=k
     ·subst e
      have:=HPQ.out
      simp at this
      rw [<-H3.out, <-H4.out,this]
     exact HS.out j (by omega)
    simp [intOf];omega
   have HPQ:=h! hpq
   go_upto_region 6 with (fail)
   go_quiet (fail)
   go_wp2
   go_ret
   exact ⟨fS (decide_eq_false (fun e=>by
    have:=HPQ.out
    simp at this
    exact this (by rw [H3.out,H4.out,e]))).symm,eK HW.out _⟩
  have hkn:k=n1:=by omega
  have HEQ:Hid (xs=ys):=h! (aAG (by rw [<-G1.out, <-G2.out]) (by rw [<-G1.out, <-hkn];exact HS.out))
  clear hkn
  go_wp2
  go_ret
  exact ⟨fS (decide_eq_true HEQ.out).symm,HW.out⟩
 have hq:((n1:Int) != (n2:Int))=true:=by simp;omega
 have HNE:=h! hne
 clear hne
 go_enter Tryz.func131,Tryz.ntmps131
 go_wp2
 go_ret
 exact ⟨fS (decide_eq_false (fun e=>HNE.out (by rw [G1.out,G2.out,e]))).symm,HW.out⟩
theorem aFM {w:World} {v:Value} {xs:List Int} {k:FuncId} {cap:Array Value} (eg:Enters Tryz.prog k) (p:Int -> Bool) (hv:Ints w v xs)
  (hstep:∀ (W:World) (x:Int),x ∈ xs -> Below w.heap.size w W -> Calls Tryz.prog k (#[.int .i64 x] ++ cap) W fun e W'=>e = .returned (.bool (p x))/\Below W.heap.size W W') :
  Calls Tryz.prog 158 #[v,.func (.func k) #[] cap] w fun e w' => ∃ r:Int,e = .returned (.int .i64 r)/\decide (0 <= r)=xs.any p/\Below w.heap.size w w':=by
 obtain ⟨a1,c1,b1,o1,rfl,hc1,hm1,ha1,hx⟩:=hv.parts
 obtain ⟨n1,hn1⟩ : ∃ n,n=xs.length:=⟨_,rfl⟩
 rw [<-hn1] at hc1 ha1 hx ⊢
 have G1:=h! hn1
 have HA1:=h! ha1
 have HX:=h! hx
 have HW:=h! (Below.refl w.heap.size w)
 have HST:=h! hstep
 clear hv hn1 ha1 hx hstep
 have eg1:∀ (args:Array Value) (w:World),(callFunc k args).run Tryz.prog w = .ok (.enter k args) w:=eg
 go_enter Tryz.func158,Tryz.ntmps158
 go_wp2_with fail
 go_loopw [8] (fun i wr => ∃ j:Nat,j <= n1/\i = .int .i64 j/\(xs.take j).any p=false/\Below w.heap.size w wr) (fun i _=>n1 - (intOf i).toNat)
 case atStart=>exact ⟨0,aP _,rfl,rfl,HW.out⟩
 case round =>
  obtain ⟨j,hj,rfl,hs,hW⟩:=hrel
  have HS:=h! hs
  replace HW:=h! hW
  clear hs hW
  generalize wr=w3 at *
  by_cases hlt:j < n1
  ·obtain ⟨rfl,hb1⟩:=HA1.out (by omega)
   have hxk:=(HW.out.cell (p:=⟨b1,o1+j,none⟩) hb1).trans (HX.out j hlt)
   obtain ⟨x,hx⟩ : ∃ x,x=xs.getD j 0:=⟨_,rfl⟩
   rw [<-hx] at hxk
   have hxm:xs[j]? = some x:=by rw [hx];exact eX xs j (by have:=G1.out;omega)
   have HXM:=h! (aG hxm)
   have HTK:=h! (eP xs j x hxm)
   clear hx hxm
   obtain ⟨c,hc⟩ : ∃ c,c=p x:=⟨_,rfl⟩
   have HC:=h! hc
   have HCT:=h! (HST.out w3 x HXM.out HW.out)
   rw [<-hc] at HCT
   clear hc
   cases c
   ·go_wp2_with (go_at_fn k;refine HCT.out.mono ?_;rintro e w4 ⟨rfl,hb4⟩;have HB4:=h! hb4;clear hb4)
    have HW4:=h! (HW.out.trans (HB4.out.mono HW.out.size))
    have HS2:Hid ((xs.take (j+1)).any p=false):=h! (by rw [HTK.out,List.any_append,HS.out];simp [<-HC.out])
    go_roundw
    case rel=>exact ⟨j+1,hlt,by go_num,HS2.out,HW4.out⟩
    simp [intOf];omega
   go_wp2_with (go_at_fn k;refine HCT.out.mono ?_;rintro e w4 ⟨rfl,hb4⟩;have HB4:=h! hb4;clear hb4)
   have HW4:=h! (HW.out.trans (HB4.out.mono HW.out.size))
   have HAN:Hid (xs.any p=true):=h! (by rw [eG];exact ⟨x,HXM.out,HC.out.symm⟩)
   go_ret
   exact ⟨j,rfl,by rw [HAN.out];simp,HW4.out⟩
  have HAN:Hid (xs.any p=false):=h! (by have h9:=HS.out;rw [aI (by have:=G1.out;omega)] at h9;exact h9)
  go_wp2
  go_ret
  exact ⟨-1,rfl,by rw [HAN.out];simp,HW.out⟩
theorem aCU {w:World} {v:Value} {xs:List Int} {k:FuncId} {cap:Array Value} (eg:Enters Tryz.prog k) (p:Int -> Bool) (hv:Ints w v xs)
  (hstep:∀ (W:World) (x:Int),x ∈ xs -> Below w.heap.size w W -> Calls Tryz.prog k (#[.int .i64 x] ++ cap) W fun e W'=>e = .returned (.bool (p x))/\Below W.heap.size W W') :
  Calls Tryz.prog 92 #[v,.func (.func k) #[] cap] w fun e w'=>e = .returned (.bool (xs.any p))/\Below w.heap.size w w':=by
 have HC:=h! (aFM eg p hv hstep)
 clear hv hstep
 go_enter Tryz.func92,Tryz.ntmps92
 go_wp2_with fail
 refine HC.out.mono ?_
 rintro e w2 ⟨r,rfl,hr,hb⟩
 have HR:=h! hr
 have HB:=h! hb
 clear hr hb
 go_wp2
 go_ret
 exact ⟨fS HR.out,HB.out⟩
section
open Go.RowKit
def jX (f:FuncD) (a b:Nat):Prop:=Way (toB f) (-1) a/\Way (toB f) (-1) b /\ ¬ Way (toB f) (a:Int) b
def aHQ (f:FuncD) (v:Value) (w:World) (e:Ending) (w' : World):Prop :=
 Below w.heap.size w w' /\ ((eL f ≠ 0/\e = .returned (.tuple #[.pointer none,.int .i64 (eL f)])) \/
  (eL f=0 /\ ∃ (bt bg lg lcap:Nat) (g:Array Value) (pv ov lv:Value) (O:List Nat) (I:Nat -> Option Nat),e = .returned (.tuple #[.pointer (some ⟨bt,0,none⟩),.int .i64 0])/\v = .agg g/\gL f O/\TreeM f w' bt bg lg lcap g pv ov lv O I/\DomI f O I))
theorem aFN {w:World} {v:Value} {f:FuncD} (hv:gG w v f):Calls Tryz.prog 73 #[v] w (aHQ f v w):=by
 have HV:=h! hv
 obtain ⟨ap,cp,ab,cb,rfl,hp,ha,hc,hB⟩:=hv.form
 clear hp ha hc hB hv
 go_enter Tryz.func73,Tryz.ntmps73
 go_upto_region 1 with (fail)
 have hA_:=(Below.refl w.heap.size w).alloc (aF _) (.cells #[.slice ap f.params.length cp,.int .i64 f.arrays,.int .i64 f.cells,.slice ab f.blocks.length cb] 25)
 have HW:=h! hA_
 clear hA_
 have B1:=h! (Box.new w #[.slice ap f.params.length cp,.int .i64 f.arrays,.int .i64 f.cells,.slice ab f.blocks.length cb] 25)
 generalize w.alloc (.cells #[.slice ap f.params.length cp,.int .i64 f.arrays,.int .i64 f.cells,.slice ab f.blocks.length cb] 25)=wv at *
 obtain ⟨lB1,cB1,fB1⟩:=B1.out
 go_wp2_with fail
 refine (aAH (HV.out.below HW.out)).mono ?_
 rintro e w2 ⟨hb,⟨hc0,rfl⟩ | ⟨hc0,bg,O,rfl,hO,hG⟩⟩
 ·have hc1:(eL f != 0)=true:=by simpa using hc0
  have HC0:=h! hc0
  clear hc0
  clear lB1 cB1 fB1
  replace B1:=h! (B1.out.later hb)
  replace HW:=h! (HW.out.trans (hb.mono HW.out.size))
  clear hb
  obtain ⟨lB1,cB1,fB1⟩:=B1.out
  go_wp2
  go_ret2
  exact ⟨HW.out,.inl ⟨HC0.out,rfl⟩⟩
 have HC0:=h! hc0
 have HO:=h! hO
 have HG:=h! hG
 clear hc0 hO hG
 clear lB1 cB1 fB1
 replace B1:=h! (B1.out.later hb)
 replace HW:=h! (HW.out.trans (hb.mono HW.out.size))
 clear hb
 obtain ⟨lB1,cB1,fB1⟩:=B1.out
 go_wp2_with fail
 refine (aHU (HV.out.below HW.out) HG.out HO.out (eS HC0.out).1).mono ?_
 rintro e w3 ⟨bt,lg,lcap,g,pv,ov,lv,I,rfl,hvg,hT,hD,hb⟩
 have HT:=h! hT
 have HD:=h! hD
 have HVG:=h! hvg
 clear hT hD hvg
 clear lB1 cB1 fB1
 replace B1:=h! (B1.out.later hb)
 replace HW:=h! (HW.out.trans (hb.mono HW.out.size))
 clear hb
 obtain ⟨lB1,cB1,fB1⟩:=B1.out
 go_wp2
 go_ret2
 exact ⟨HW.out,.inr ⟨HC0.out,bt,bg,lg,lcap,g,pv,ov,lv,O,I,rfl,HVG.out,HO.out,HT.out,HD.out⟩⟩
theorem vO {W:World} {f:FuncD} {bt bg lg lcap:Nat} {g:Array Value} {pv ov lv:Value} {O:List Nat} {I:Nat -> Option Nat} (hT:TreeM f W bt bg lg lcap g pv ov lv O I) (hO:gL f O) (hI:DomI f O I) (h512:f.blocks.length <= 512)
  {a b:Nat} (ha:a < f.blocks.length) (hb:b < f.blocks.length) :
  Calls Tryz.prog 134 #[.pointer (some ⟨bt,0,none⟩),.int .i64 a,.int .i64 b] W fun e w' => ∃ r:Bool,e = .returned (.bool r)/\(r=true ↔ jX f a b)/\W=w':=by
 obtain ⟨hc0,hc1, -, -,hc6⟩:=hT.cells
 obtain ⟨pa,pc,pb,po,hpe,hpc,hpm,hpa,hpx⟩:=hT.place.parts
 rw [fL] at hpe hpc hpa
 subst hpe
 obtain ⟨lc2, -, -, -,hil,hif⟩:=hT.idom.form
 obtain ⟨h1,h2,h3,h4,h5⟩:=hO.facts
 obtain ⟨nb,hnb⟩ : ∃ nb,nb=f.blocks.length:=⟨_,rfl⟩
 have hda:=hpx a (by rw [fL];exact ha)
 have hdb:=hpx b (by rw [fL];exact hb)
 rw [aH,lN ha,dA] at hda
 rw [aH,lN hb,dA] at hdb
 rw [<-hnb] at hc1 hpc hpa hil h512 h3 hc6 ha hb
 obtain ⟨rfl,hpb⟩:=hpa (by omega)
 have HIL:=h! hil
 have HTR:=h! hI.tree
 have HPR:=h! (fun (v:Nat) (h:Way (toB f) (-1) v)=>hI.proc h)
 have HAN:=h! (fun (c v:Nat) (h:Way (toB f) (-1) v)=>hI.anc (c:=c) h)
 have HO2:=h! h2
 have HO3:=h! h3
 clear hT hpx hil hif h1 h3 h4 h5 hI hO hnb hpa
 by_cases haO:a ∈ O
 ·rw [if_pos haO] at hda
  have hna:decide (((O.idxOf a:Nat):Int) < 0)=false:=by simp
  by_cases hbO:b ∈ O
  ·rw [if_pos hbO] at hdb
   have hnb:decide (((O.idxOf b:Nat):Int) < 0)=false:=by simp
   have HAW:=h! ((h2 a).1 haO)
   have HBW:=h! ((h2 b).1 hbO)
   clear h2 haO hbO
   go_enter Tryz.func134,Tryz.ntmps134
   go_wp2_with fail
   clear hda hdb hna hnb
   go_loopw [2] (fun u wr => ∃ b' : Nat,u = .int .i64 b' /\ Way (toB f) (-1) b' /\ (Anc I a b' ↔ Anc I a b)/\W=wr) (fun u _=>O.idxOf (intOf u).toNat)
   case atStart=>exact ⟨b,rfl,HBW.out,Iff.rfl,rfl⟩
   obtain ⟨c,rfl,hcw,hci,rfl⟩:=hrel
   have HCW:=h! hcw
   have HCI:=h! hci
   have hcl:=HO3.out c ((HO2.out c).2 hcw)
   clear hcw hci
   by_cases hca:c=a
   ·have hq:((c:Int) != (a:Int))=false:=by simp [hca]
    have hq2:((a:Int) == (c:Int))=true:=by simp [hca]
    have HR:Hid (jX f a b):=h! ⟨HAW.out,HBW.out,(HAN.out a b HBW.out).1 (HCI.out.1 (by rw [hca];exact .refl))⟩
    have HQ2:=h! hq2
    clear hca hq2
    go_wp2
    go_ret
    refine ⟨_,rfl, ?_, ?_⟩
    ·first | exact ⟨fun _=>HR.out,fun _=>HQ2.out⟩ | simp [HR.out]
    first | rfl | trivial
   have hq:((c:Int) != (a:Int))=true:=by simp;omega
   by_cases hc00:c=0
   ·have hq2:((a:Int) == (c:Int))=false:=by simp;omega
    have HQ2:=h! hq2
    clear hq2
    have HR:Hid (¬ jX f a b):=h! (fun h=>by
     have h9:=HCI.out.2 ((HAN.out a b HBW.out).2 h.2.2)
     rw [hc00] at h9
     exact hca (by rw [hc00,HTR.out.anc_zero h9]))
    have hcn:¬ 0 < c:=by omega
    clear hca hc00
    go_wp2
    go_ret
    refine ⟨_,rfl, ?_, ?_⟩
    ·first | exact ⟨fun h=>absurd (HQ2.out.symm.trans h) (by simp),fun h=>absurd h HR.out⟩ | simp [HR.out]
    first | rfl | trivial
   have hgt:0 < c:=by omega
   obtain ⟨p,hp⟩:=eH.1 ((HPR.out c HCW.out).resolve_left hc00)
   obtain ⟨p1,p2,p3,p4⟩:=HTR.out.par hp
   have dp:=HIL.out c p (lM hcl hp)
   have HP2:=h! p2
   have HP3:=h! p3
   have HAP:Hid (Anc I a p ↔ Anc I a b):=h! (by
    rw [<-HCI.out]
    constructor
    ·exact fun h=>.up hp h
    intro h
    rcases h.parts with e | ⟨q,e,h⟩
    ·exact absurd e.symm hca
    rw [hp] at e;cases e;exact h)
   clear hca hc00 hp p1 p2 p3 p4
   go_wp2
   go_roundw
   case rel=>exact ⟨p,rfl,HP2.out,HAP.out,by first | rfl | trivial⟩
   have h9:=HP3.out
   simp only [intOf,cU] at h9 ⊢
   exact h9
  rw [if_neg hbO] at hdb
  have HN:Hid (¬ jX f a b):=h! (fun h=>hbO ((h2 b).2 h.2.1))
  clear h2 haO hbO
  go_enter Tryz.func134,Tryz.ntmps134
  go_wp2
  go_ret
  exact ⟨false,rfl,by simpa using HN.out,rfl⟩
 ·rw [if_neg haO] at hda
  have HN:Hid (¬ jX f a b):=h! (fun h=>haO ((h2 a).2 h.1))
  clear h2 haO
  go_enter Tryz.func134,Tryz.ntmps134
  go_wp2
  go_ret
  exact ⟨false,rfl,by simpa using HN.out,rfl⟩
end
section
open Go.RowKit
end
section
open Go.RowKit
theorem DomI.over {f:FuncD} {O:List Nat} {I:Nat -> Option Nat} (h:DomI f O I) {c v:Nat} (hv:Way (toB f) (-1) v):Anc I c v ↔ jX f c v :=
 ⟨fun ha=>⟨h.tree.proc_way (h.tree.procs ha (h.proc hv)),hv,(h.anc hv).1 ha⟩,fun ho=>(h.anc hv).2 ho.2.2⟩
end
private theorem fG.alloc {w0 W:World} (h:fG w0 W) (o:Obj):fG w0 (W.alloc o):=h.later ((Below.refl _ _).alloc (aF _) o)
theorem rC:entF iO=[(0,0,0)]:=by decide
def PhiV (W:World) (v:Value) (p:PhiD):Prop := ∃ s u,v = .agg #[.int .i64 p.id,.int .i64 p.typ,s,u]/\Ints W s p.src/\Ints W u p.vals
theorem PhiV.below {W W' : World} {v:Value} {p:PhiD} (h:PhiV W v p) (hb:Below W.heap.size W W'):PhiV W' v p:=by
 obtain ⟨s,u,e,h1,h2⟩:=h
 exact ⟨s,u,e,h1.below hb,h2.below hb⟩
theorem aFO {w:World} {v:Value} {ps:List PhiD} {k:FuncId} {cap:Array Value} (eg:Enters Tryz.prog k) (g:PhiD -> Bool) (hv:eQ PhiR 4 w v ps)
  (hstep:∀ (W:World) (p:PhiD) (pv:Value),p ∈ ps -> PhiV W pv p -> Below w.heap.size w W -> Calls Tryz.prog k (#[pv] ++ cap) W fun e W'=>e = .returned (.bool (g p))/\Below W.heap.size W W') :
  Calls Tryz.prog 94 #[v,.func (.func k) #[] cap] w fun e w' => ∃ r:Int,e = .returned (.int .i64 r)/\decide (0 <= r)=ps.any g/\Below w.heap.size w w':=by
 obtain ⟨a1,c1,b1,o1,rfl,hc1,hm1,hl1,ha1,hx⟩:=fV hv
 obtain ⟨n1,hn1⟩ : ∃ n,n=ps.length:=⟨_,rfl⟩
 rw [<-hn1] at hc1 hl1 ha1 ⊢
 have G1:=h! hn1
 have HA1:=h! ha1
 have HX:=h! hx
 have HW:=h! (Below.refl w.heap.size w)
 have HST:=h! hstep
 clear hv hn1 ha1 hx hstep
 have eg1:∀ (args:Array Value) (w:World),(callFunc k args).run Tryz.prog w = .ok (.enter k args) w:=eg
 go_enter Tryz.func94,Tryz.ntmps94
 go_wp2_with fail
 go_loopw [8] (fun i wr => ∃ j:Nat,j <= n1/\i = .int .i64 j/\(ps.take j).any g=false/\Below w.heap.size w wr) (fun i _=>n1 - (intOf i).toNat)
 case atStart=>exact ⟨0,aP _,rfl,rfl,HW.out⟩
 case round =>
  obtain ⟨j,hj,rfl,hs,hW⟩:=hrel
  have HS:=h! hs
  replace HW:=h! hW
  clear hs hW
  generalize wr=w3 at *
  by_cases hlt:j < n1
  ·obtain ⟨rfl,hb1⟩:=HA1.out (by omega)
   obtain ⟨p,hxm⟩ : ∃ p,ps[j]? = some p:=⟨_,aB (by have:=G1.out;omega)⟩
   obtain ⟨af,av,cf,cv,hP⟩:=HX.out j p hxm
   obtain ⟨m0,m1,m2,m3,r1,r2,r3,r4⟩:=hP.below HW.out hb1
   have HXM:=h! (aG hxm)
   have HTK:=h! (eP ps j p hxm)
   obtain ⟨c,hc⟩ : ∃ c,c=g p:=⟨_,rfl⟩
   have HC:=h! hc
   have HCT:=h! (HST.out w3 p (.agg #[.int .i64 p.id,.int .i64 p.typ,.slice af p.src.length cf,.slice av p.vals.length cv]) HXM.out ⟨_,_,rfl,r1,r2⟩ HW.out)
   rw [<-hc] at HCT
   clear hc hxm hP r1 r2 r3 r4
   cases c
   ·go_wp2_with (go_at_fn k;refine HCT.out.mono ?_;rintro e w4 ⟨rfl,hb4⟩;have HB4:=h! hb4;clear hb4)
    have HW4:=h! (HW.out.trans (HB4.out.mono HW.out.size))
    have HS2:Hid ((ps.take (j+1)).any g=false):=h! (by rw [HTK.out,List.any_append,HS.out];simp [<-HC.out])
    go_roundw
    case rel=>exact ⟨j+1,hlt,by go_num,HS2.out,HW4.out⟩
    simp [intOf];omega
   go_wp2_with (go_at_fn k;refine HCT.out.mono ?_;rintro e w4 ⟨rfl,hb4⟩;have HB4:=h! hb4;clear hb4)
   have HW4:=h! (HW.out.trans (HB4.out.mono HW.out.size))
   have HAN:Hid (ps.any g=true):=h! (by rw [eG];exact ⟨p,HXM.out,HC.out.symm⟩)
   go_ret
   exact ⟨j,rfl,by rw [HAN.out];simp,HW4.out⟩
  have HAN:Hid (ps.any g=false):=h! (by have h9:=HS.out;rw [aI (by have:=G1.out;omega)] at h9;exact h9)
  go_wp2
  go_ret
  exact ⟨-1,rfl,by rw [HAN.out];simp,HW.out⟩
theorem aCV {w:World} {v:Value} {ps:List PhiD} {k:FuncId} {cap:Array Value} (eg:Enters Tryz.prog k) (g:PhiD -> Bool) (hv:eQ PhiR 4 w v ps)
  (hstep:∀ (W:World) (p:PhiD) (pv:Value),p ∈ ps -> PhiV W pv p -> Below w.heap.size w W -> Calls Tryz.prog k (#[pv] ++ cap) W fun e W'=>e = .returned (.bool (g p))/\Below W.heap.size W W') :
  Calls Tryz.prog 129 #[v,.func (.func k) #[] cap] w fun e w'=>e = .returned (.bool (ps.any g))/\Below w.heap.size w w':=by
 have HC:=h! (aFO eg g hv hstep)
 clear hv hstep
 go_enter Tryz.func129,Tryz.ntmps129
 go_wp2_with fail
 refine HC.out.mono ?_
 rintro e w2 ⟨r,rfl,hr,hb⟩
 have HR:=h! hr
 have HB:=h! hb
 clear hr hb
 go_wp2
 go_ret
 exact ⟨fS HR.out,HB.out⟩
structure StrM (f:FuncD) (W:World) (bs bt bg lg lcap bm:Nat) (g:Array Value) (pv ov lv A2:Value) (O:List Nat) (I:Nat -> Option Nat):Prop where
 s:Box W bs #[.pointer (some ⟨bt,0,none⟩),A2,.map (some bm)]
 t:TreeM f W bt bg lg lcap g pv ov lv O I
 mp:IMap W bm (defM (entF f))
theorem StrM.later {f:FuncD} {W W' : World} {bs bt bg lg lcap bm:Nat} {g:Array Value} {pv ov lv A2:Value} {O:List Nat} {I:Nat -> Option Nat} (h:StrM f W bs bt bg lg lcap bm g pv ov lv A2 O I) (hb:Below W.heap.size W W'):StrM f W' bs bt bg lg lcap bm g pv ov lv A2 O I :=
 ⟨h.s.later hb,h.t.later hb,h.mp.later hb⟩
theorem StrM.alloc {f:FuncD} {W:World} {bs bt bg lg lcap bm:Nat} {g:Array Value} {pv ov lv A2:Value} {O:List Nat} {I:Nat -> Option Nat} (h:StrM f W bs bt bg lg lcap bm g pv ov lv A2 O I) (o:Obj):StrM f (W.alloc o) bs bt bg lg lcap bm g pv ov lv A2 O I:=h.later ((Below.refl _ _).alloc (aF _) o)
def kQ (f:FuncD) (d k b at_:Int):Prop:=(d=b/\k < at_) \/ (d ≠ b/\jX f d.toNat b.toNat)
set_option maxRecDepth 100000 in
theorem ahead {f:FuncD} {w:World} {bs bt bg lg lcap bm:Nat} {g:Array Value} {pv ov lv A2:Value} {O:List Nat} {I:Nat -> Option Nat} (hS:StrM f w bs bt bg lg lcap bm g pv ov lv A2 O I) (hO:gL f O) (hD:DomI f O I) (hc:eL f=0)
  {id d k b at_:Int} (he:((entF f).find? fun e=>e.1 == id)=some (id,d,k)) (hd:0 <= d/\d < (f.blocks.length:Int)) (hb:0 <= b/\b < (f.blocks.length:Int)) :
  Calls Tryz.prog 136 #[.pointer (some ⟨bs,0,none⟩),.int .i64 id,.int .i64 b,.int .i64 at_] w fun e w' => ∃ r:Bool,e = .returned (.bool r)/\(r=true ↔ kQ f d k b at_)/\Below w.heap.size w w':=by
 have HI:=h! hS.mp
 have HG:Hid (mget (defM (entF f)) id=some (.agg #[.int .i64 d,.int .i64 k])):=h! (by rw [zH hc,he];rfl)
 obtain ⟨dn,rfl⟩ : ∃ dn:Nat,d=(dn:Int):=⟨d.toNat,by omega⟩
 obtain ⟨bn,rfl⟩ : ∃ bn:Nat,b=(bn:Int):=⟨b.toNat,by omega⟩
 have HOV:=h! (fun (W:World) (hW:Below w.heap.size w W)=>vO (a:=dn) (b:=bn) (hS.t.later hW) hO hD (gV (eS hc).1).2 (by omega) (by omega))
 have HS:=h! hS
 obtain ⟨l1,c1,f1⟩:=hS.s
 clear hS hO hD hc he hd hb
 by_cases hdb:dn=bn
 ·have hq:((dn:Int) == (bn:Int))=true:=by simp [hdb]
  have HDB:=h! hdb
  clear hdb
  go_enter Tryz.func136,Tryz.ntmps136
  go_wp2_with (at_lookup;refine eN (q:=.i64) (z:=.agg #[.int .i64 0,.int .i64 0]) (b:=bm) (mm:=defM (entF f)) (y:=id) rfl _ _ _ rfl Tryz.underlying90 Tryz.underlying3 (tF _) rfl HI.out rfl ?_;rw [HG.out];simp only [dA])
  have HW:=h! ((Below.refl w.heap.size w).alloc (aF _) (.cells #[.int .i64 dn,.int .i64 k] 164))
  go_ret
  exact ⟨decide (k < at_),rfl,by rw [decide_eq_true_iff];unfold kQ;have:=HDB.out;constructor;exact fun h=>.inl ⟨by omega,h⟩;exact fun h=>h.elim (fun h=>h.2) (fun h=>absurd (by omega) h.1),HW.out⟩
 ·have hq:((dn:Int) == (bn:Int))=false:=by simp;omega
  have HDB:=h! hdb
  clear hdb
  go_enter Tryz.func136,Tryz.ntmps136
  go_upto_region 4 with (at_lookup;refine eN (q:=.i64) (z:=.agg #[.int .i64 0,.int .i64 0]) (b:=bm) (mm:=defM (entF f)) (y:=id) rfl _ _ _ rfl Tryz.underlying90 Tryz.underlying3 (tF _) rfl HI.out rfl ?_;rw [HG.out];simp only [dA])
  clear l1 c1 f1
  have HW:=h! ((Below.refl w.heap.size w).alloc (aF _) (.cells #[.int .i64 dn,.int .i64 k] 164))
  have BX:=h! (Box.new w #[.int .i64 dn,.int .i64 k] 164)
  obtain ⟨bx,hbx⟩ : ∃ bx,bx=w.heap.size:=⟨_,rfl⟩
  have e9:(⟨w.heap.size,0,none⟩ : Addr)=⟨bx,0,none⟩:=by rw [hbx]
  rw [<-hbx] at BX
  simp only [<-hbx]
  generalize w.alloc _=w1 at *
  clear hbx e9
  obtain ⟨lBX,cBX,fBX⟩:=BX.out
  refine wp_region_grow 9 (fun kz=>match kz with | 7=>.holds (fun u w' => ∃ r:Bool,u = .bool r/\(r=true ↔ jX f dn bn)) | _=>.plain) (by kernel_rfl) (by kernel_rfl) ?_ (fun ν => ?_)
  ·(intro k;(try dsimp only);split <;> first | exact True.intro | (intro u w1 w2 hu hb;exact hu))
  simp only [aK,aR,aM,aT]
  iterate 7 (refine Grow.val (v := ?_) rfl rfl (fun wg hbg hdg => ?_) ?_;rotate_left;(focus ((obtain ⟨lg0,cg0,fg0⟩:=BX.out.later hbg);(obtain ⟨xl1,xc1,xf1⟩:=(HS.out.later (HW.out.trans (hbg.mono HW.out.size))).s);clear hbg hdg;first | (go_simp;done) | (go_simp;with_reducible rfl)));simp only [Act.put,aA,aC,aD])
  refine Grow.call (f := ?_) (args := ?_) rfl (fun wg => ?_) (fun wg hbg hdg => ?_) ?_
  rotate_left 2
  focus (first | (go_simp;done) | (go_simp;refine And.intro ?_ ?_ <;> with_reducible rfl) | (go_simp;with_reducible rfl))
  focus exact ((HOV.out wg (HW.out.trans (hbg.mono HW.out.size))).mono (fun e w2 ⟨r,he,hr,hw⟩=>⟨_,he,⟨r,rfl,hr⟩,hw ▸ Below.refl _ _⟩))
  simp only [Act.put,Known.val,aA,aC,aD]
  refine Grow.val (v := ?_) rfl rfl (fun wg hbg hdg => ?_) ?_
  rotate_left
  focus ((obtain ⟨lg0,cg0,fg0⟩:=BX.out.later hbg);(obtain ⟨xl1,xc1,xf1⟩:=(HS.out.later (HW.out.trans (hbg.mono HW.out.size))).s);clear hbg hdg;first | (go_simp;done) | (go_simp;with_reducible rfl))
  simp only [Act.put,aA,aC,aD]
  intro wg hb hf hap
  clear hap
  clear lBX cBX fBX
  replace BX:=h! (BX.out.later hb)
  replace HW:=h! (HW.out.trans (hb.mono HW.out.size))
  clear hb
  obtain ⟨lBX,cBX,fBX⟩:=BX.out
  simp only [bH,Nat.reduceAdd]
  have hS:∃ r:Bool, ν 7 = .bool r/\(r=true ↔ jX f dn bn):=hf 7 (by omega)
  obtain ⟨r,hr1,hr2⟩:=hS
  simp only [hr1]
  have HR:Hid (r=true ↔ kQ f dn k bn at_):=h! (by
   unfold kQ
   rw [hr2]
   have:=HDB.out
   exact ⟨fun h=>.inr ⟨by omega,by simpa using h⟩,fun h=>h.elim (fun h=>absurd h.1 (by omega)) (fun h=>by simpa using h.2)⟩)
  clear hf hr1 hr2
  go_wp2
  go_ret
  exact ⟨r,rfl,HR.out,HW.out⟩
end Go.Proofs.YtcmflfkpeodicaaGreat
