/- Part 54. -/
import Derived.Test.YtagabiidbbhhmaaGreatEU53
import Derived.Test.YtagabiidbbhhmaaGreatEU51
namespace Go.Proofs.YtagabiidbbhhmaaGreat
set_option maxHeartbeats 12800000
set_option linter.all false
open Go.RowKit
def vI (f:FuncD) (w:World) (e:Ending) (w' : World):Prop := ∃ (O:List Nat) (v:Value) (S:Foot),fT f O/\e = .returned v/\OFunc w' S v (renF f O)/\kC w.heap.size S/\Below w.heap.size w w'
theorem yH (hren:∀ (W:World) (v:Value) (f:FuncD),fP W v f -> eV f=0 -> gD f 0 0 -> Calls Tryz.prog 37 #[v] W (vI f W)) {w:World} {v:Value} {f:FuncD} (hv:fP w v f) :
  Calls Tryz.prog 11 #[v] w (RenR f w):=by
 have HV:=h! hv
 have ao:=h! hren
 obtain ⟨ap,cp,ab,cb,rfl, -, -, -, -⟩:=hv.form
 clear hv hren
 go_enter Tryz.func11,Tryz.ntmps11
 go_upto_region 1 with (fail)
 have ai:=(Below.refl w.heap.size w).alloc (aC _) (.cells #[.slice ap f.params.length cp,.int .i64 f.arrays,.int .i64 f.cells,.slice ab f.blocks.length cb] 25)
 have HW:=h! ai
 clear ai
 have B1:=h! (Box.new w #[.slice ap f.params.length cp,.int .i64 f.arrays,.int .i64 f.cells,.slice ab f.blocks.length cb] 25)
 have aj:(w.alloc (.cells #[.slice ap f.params.length cp,.int .i64 f.arrays,.int .i64 f.cells,.slice ab f.blocks.length cb] 25)).heap.size=w.heap.size+1:=World.size_alloc _ _
 generalize w.alloc (.cells #[.slice ap f.params.length cp,.int .i64 f.arrays,.int .i64 f.cells,.slice ab f.blocks.length cb] 25)=ak at *
 have ai:=(Below.refl ak.heap.size ak).alloc (aC _) (.cells #[.slice none 0 0,.int .i64 0,.int .i64 0,.slice none 0 0] 25)
 replace B1:=h! (B1.out.later ai)
 replace HW:=h! (HW.out.trans (ai.mono HW.out.size))
 clear ai
 have B2:=h! (Box.new ak #[.slice none 0 0,.int .i64 0,.int .i64 0,.slice none 0 0] 25)
 rw [aj] at B2
 clear aj
 generalize ak.alloc (.cells #[.slice none 0 0,.int .i64 0,.int .i64 0,.slice none 0 0] 25)=wv at *
 obtain ⟨af,ac,ad⟩:=B1.out
 obtain ⟨ae,aa,ag⟩:=B2.out
 go_wp2_with fail
 refine (aDD (HV.out.below HW.out)).mono ?_
 rintro e w1 ⟨bq,g,rfl,h1,h2,hb⟩
 have HS:=h! (SErr.of_check h1 h2)
 clear h1 h2
 clear af ac ad ae aa ag
 replace B1:=h! (B1.out.later hb)
 replace B2:=h! (B2.out.later hb)
 replace HW:=h! (HW.out.trans (hb.mono HW.out.size))
 clear hb
 obtain ⟨af,ac,ad⟩:=B1.out
 obtain ⟨ae,aa,ag⟩:=B2.out
 by_cases hg:g=0
 rotate_left
 ·have am:Hid (RenP f aC4 g):=h! ⟨g,HS.out,.inl ⟨hg,rfl,rfl⟩⟩
  have hc1:(g != 0)=true:=by simpa using hg
  clear hg
  go_wp2
  clear af ac ad ae aa ag
  have ah:=((((Only.set w1 (w.heap.size+1) 0 (.slice none 0 0)).put 1 (.int .i64 0)).put 2 (.int .i64 0)).put 3 (.slice none 0 0))
  replace B1:=h! (B1.out.only ah (by first | assumption | (simp;done) | omega))
  replace HW:=h! (ah.2.2 HW.out (by first | assumption | omega | (have:=HW.out.size;omega) | (simp;done) | (simp;omega)))
  replace B2:=h! (Box.to (A':=#[(.slice none 0 0),(.int .i64 0),(.int .i64 0),(.slice none 0 0)]) ((((B2.out.set 0 (.slice none 0 0)).set 1 (.int .i64 0)).set 2 (.int .i64 0)).set 3 (.slice none 0 0)) (by first | rfl | simp))
  clear ah
  generalize ((((w1.setCell ⟨w.heap.size+1,0,none⟩ (.slice none 0 0)).setCell ⟨w.heap.size+1,1,none⟩ (.int .i64 0)).setCell ⟨w.heap.size+1,2,none⟩ (.int .i64 0)).setCell ⟨w.heap.size+1,3,none⟩ (.slice none 0 0))=wz at *
  obtain ⟨af,ac,ad⟩:=B1.out
  obtain ⟨ae,aa,ag⟩:=B2.out
  refine bodyPost_ret (v:=.tuple #[.agg #[.slice none 0 0,.int .i64 0,.int .i64 0,.slice none 0 0],.int .i64 g]) (by simp [results,Tryz.results11,go_sem, *]) rfl ⟨aC4,g,_,Foot.none,am.out,rfl,OFunc.zero,fun _ h=>h.elim,HW.out⟩
 subst hg
 have HZ:=h! HS.out.zero
 go_wp2_with fail
 refine (ao.out _ _ _ (HV.out.below HW.out) HZ.out.1 HZ.out.2).mono ?_
 rintro e w2 ⟨O,v1,S1,hO,rfl,al,an,hb⟩
 obtain ⟨ax,cx,bx,dx,rfl, -, -, -, -⟩:=al.reads.form
 have HR:Hid (RenP f (renF f O) 0):=h! ⟨0,HS.out,.inr ⟨rfl,rfl,O,hO,rfl⟩⟩
 have HA:=h! (((kN al an).from (base':=w.heap.size+1+1) (by omega)).low (bs':=[w.heap.size,w.heap.size+1]) (by intro z hz;simp at hz;omega))
 clear hO al an
 clear af ac ad ae aa ag
 replace B1:=h! (B1.out.later hb)
 replace B2:=h! (B2.out.later hb)
 replace HW:=h! (HW.out.trans (hb.mono HW.out.size))
 clear hb
 obtain ⟨af,ac,ad⟩:=B1.out
 obtain ⟨ae,aa,ag⟩:=B2.out
 go_wp2
 clear af ac ad ae aa ag
 have ah:=((((Only.set w2 (w.heap.size+1) 0 (.slice ax (renF f O).params.length cx)).put 1 (.int .i64 (renF f O).arrays)).put 2 (.int .i64 (renF f O).cells)).put 3 (.slice bx (renF f O).blocks.length dx))
 replace B1:=h! (B1.out.only ah (by first | assumption | (simp;done) | omega))
 replace HA:=h! ((((HA.out.other (p:=⟨w.heap.size+1,0,none⟩) (.slice ax (renF f O).params.length cx) (by simp)).other (p:=⟨w.heap.size+1,1,none⟩) (.int .i64 (renF f O).arrays) (by simp)).other (p:=⟨w.heap.size+1,2,none⟩) (.int .i64 (renF f O).cells) (by simp)).other (p:=⟨w.heap.size+1,3,none⟩) (.slice bx (renF f O).blocks.length dx) (by simp))
 replace HW:=h! (ah.2.2 HW.out (by first | assumption | omega | (have:=HW.out.size;omega) | (simp;done) | (simp;omega)))
 replace B2:=h! (Box.to (A':=#[(.slice ax (renF f O).params.length cx),(.int .i64 (renF f O).arrays),(.int .i64 (renF f O).cells),(.slice bx (renF f O).blocks.length dx)]) ((((B2.out.set 0 (.slice ax (renF f O).params.length cx)).set 1 (.int .i64 (renF f O).arrays)).set 2 (.int .i64 (renF f O).cells)).set 3 (.slice bx (renF f O).blocks.length dx)) (by first | rfl | simp))
 clear ah
 generalize ((((w2.setCell ⟨w.heap.size+1,0,none⟩ (.slice ax (renF f O).params.length cx)).setCell ⟨w.heap.size+1,1,none⟩ (.int .i64 (renF f O).arrays)).setCell ⟨w.heap.size+1,2,none⟩ (.int .i64 (renF f O).cells)).setCell ⟨w.heap.size+1,3,none⟩ (.slice bx (renF f O).blocks.length dx))=wz at *
 obtain ⟨af,ac,ad⟩:=B1.out
 obtain ⟨ae,aa,ag⟩:=B2.out
 refine bodyPost_ret (v:=.tuple #[.agg #[.slice ax (renF f O).params.length cx,.int .i64 (renF f O).arrays,.int .i64 (renF f O).cells,.slice bx (renF f O).blocks.length dx],.int .i64 0]) (by simp [results,Tryz.results11,go_sem, *]) rfl ⟨_,0,_,S1,HR.out,rfl,HA.out.now,fun k hk=>by have:=HA.out.base k hk;omega,HW.out⟩
def aBP (f:FuncD) (L:List Nat) (w:World) (e:Ending) (w' : World):Prop :=
 ∃ (ax:Option Addr) (nx cx:Nat) (ar ce:Int) (bx:Option Addr) (mx dx:Nat) (ay:Option Addr) (ny cy:Nat) (k:Int),e = .returned (.tuple #[.agg #[.slice ax nx cx,.int .i64 ar,.int .i64 ce,.slice bx mx dx],.slice ay ny cy,.int .i64 k])/\Below w.heap.size w w' /\
  (k=2 \/ k=0 /\ ∃ g:FuncD,fP w' (.agg #[.slice ax nx cx,.int .i64 ar,.int .i64 ce,.slice bx mx dx]) g/\Ints w' (.slice ay ny cy) (iJ f.blocks.length L.length)/\mx=g.blocks.length/\ny=L.length/\eV g=0 /\
   g.blocks.length=f.blocks.length+L.length /\ ∀ i b,L[i]? = some b -> ∃ x y,f.blocks[b]? = some x/\g.blocks[f.blocks.length+i]? = some y/\kJ x y)
theorem fP.blocksOf {W:World} {a b c d:Value} {f:FuncD} (h:fP W (.agg #[a,b,c,d]) f):eU gI 6 W d f.blocks:=by
 obtain ⟨x,y,he, -, -, -,hB⟩:=h
 have h9:a=x/\b = .int .i64 f.arrays/\c = .int .i64 f.cells/\d=y:=by simpa using he
 rw [h9.2.2.2]
 exact hB
theorem aC7 {L:List Nat} {i b:Nat} (h:L.Nodup) (hi:L[i]? = some b):((natI L).take i).contains (b:Int)=false:=by
 have hn:=vH h hi
 rw [Bool.eq_false_iff]
 intro hc
 rw [eA] at hc
 unfold natI at hc
 rw [<-List.map_take,bB] at hc
 obtain ⟨c,h1,h2⟩:=hc
 exact hn (by rw [show b=c by omega];exact h1)
theorem aBQ {w:World} {v lv:Value} {f:FuncD} {L:List Nat} (hv:fP w v f) (hc:eV f=0) (hr:gD f 0 0) (hl:Ints w lv (natI L)) (hnd:L.Nodup) (hin:∀ b ∈ L,b < f.blocks.length) (hn:L.length <= 512) :
  Calls Tryz.prog 33 #[v,lv] w (aBP f L w):=by
 have HV:=h! hv
 have HC:=h! (And.intro hc hr)
 have HL:=h! hl
 have bo:=h! hnd
 have aw:=h! hin
 have be:=h! hn
 obtain ⟨ap,cp,ab,cb,rfl, -, -, -,hB⟩:=hv.form
 obtain ⟨la,lc,lb,lo,rfl,bg,hlm,ba,ar⟩:=hl.parts
 obtain ⟨nb,am⟩ : ∃ nb,nb=f.blocks.length:=⟨_,rfl⟩
 obtain ⟨n,al⟩ : ∃ n,n=L.length:=⟨_,rfl⟩
 have h512:nb <= 512:=by rw [am];exact (gG (eY hc).1).2
 rw [fE, <-al] at bg ba ar HL
 rw [<-am] at HV aw
 rw [fE, <-al, <-am]
 have bf:Hid (∀ (i b:Nat),L[i]? = some b -> w.cell? ⟨lb,lo+i,none⟩=some (.int .i64 (b:Int))):=h! (fun i b hi=>by
  rw [ar i (by rw [al];exact (aD.1 hi).1)]
  rw [getD_some (x:=(b:Int)) (by unfold natI;rw [aO,hi];rfl)])
 have bl:=h! ba
 have bd:=h! al
 have bn:=h! am
 clear hv hc hr hl hnd hin hn hB ba ar al am
 go_enter Tryz.func33,Tryz.ntmps33
 go_upto_region 1 with (fail)
 have ai:=(Below.refl w.heap.size w).alloc (aC _) (.cells #[.slice ap f.params.length cp,.int .i64 f.arrays,.int .i64 f.cells,.slice ab nb cb] 25)
 have HW:=h! ai
 clear ai
 have B2:=h! (Box.new w #[.slice ap f.params.length cp,.int .i64 f.arrays,.int .i64 f.cells,.slice ab nb cb] 25)
 have aj:(w.alloc (.cells #[.slice ap f.params.length cp,.int .i64 f.arrays,.int .i64 f.cells,.slice ab nb cb] 25)).heap.size=w.heap.size+1:=World.size_alloc _ _
 generalize w.alloc (.cells #[.slice ap f.params.length cp,.int .i64 f.arrays,.int .i64 f.cells,.slice ab nb cb] 25)=aq at *
 have ai:=(Below.refl aq.heap.size aq).alloc (aC _) (.cells #[.slice none 0 0,.int .i64 0,.int .i64 0,.slice none 0 0] 25)
 replace B2:=h! (B2.out.later ai)
 replace HW:=h! (HW.out.trans (ai.mono HW.out.size))
 clear ai
 have B4:=h! (Box.new aq #[.slice none 0 0,.int .i64 0,.int .i64 0,.slice none 0 0] 25)
 rw [aj] at B4
 clear aj
 generalize aq.alloc (.cells #[.slice none 0 0,.int .i64 0,.int .i64 0,.slice none 0 0] 25)=wv at *
 obtain ⟨ae,ad,ag⟩:=B2.out
 obtain ⟨ac,af,aa⟩:=B4.out
 go_wp2_with fail
 refine (aDD (HV.out.below HW.out)).mono ?_
 rintro e w1 ⟨bq,g,rfl,h1,h2,hb⟩
 obtain ⟨rfl,rfl⟩:=sO (h2 HC.out.1) HC.out.2
 clear h1 h2
 clear ae ad ag ac af aa
 replace B2:=h! (B2.out.later hb)
 replace B4:=h! (B4.out.later hb)
 replace HW:=h! (HW.out.trans (hb.mono HW.out.size))
 clear hb
 obtain ⟨ae,ad,ag⟩:=B2.out
 obtain ⟨ac,af,aa⟩:=B4.out
 go_wp2_with fail
 clear ae ad ag ac af aa
 --@A
 go_loopw [6,22] (fun ev iv wr => ∃ i:Nat,i <= n/\ev = .int .i64 0/\iv = .int .i64 i/\Below w1.heap.size w1 wr) (fun _ iv _=>n - (intOf iv).toNat)
 case atStart=>exact ⟨0,aH _,rfl,rfl,Below.refl _ _⟩
 case round =>
  obtain ⟨i,hi,rfl,rfl,hb⟩:=hrel
  have bj:=h! hb
  have hz1:w.heap.size+1 < w1.heap.size:=B4.out.lt
  obtain ⟨ae,ad,ag⟩:=B2.out
  obtain ⟨ac,af,aa⟩:=B4.out
  clear ae ad ag ac af aa
  replace B2:=h! (B2.out.later hb)
  replace B4:=h! (B4.out.later hb)
  replace HW:=h! (HW.out.trans (hb.mono HW.out.size))
  clear hb
  obtain ⟨ae,ad,ag⟩:=B2.out
  obtain ⟨ac,af,aa⟩:=B4.out
  generalize wr=w2 at *
  by_cases hlt:i < n
  ·obtain ⟨b,ao⟩ : ∃ b,L[i]? = some b:=⟨_,aB (by rw [<-bd.out];exact hlt)⟩
   have hbn:b < nb:=aw.out b (aG ao)
   have bi:=h! (aC7 bo.out ao)
   have bh:Hid (Ints w (.slice la i lc) ((natI L).take i)):=h! (HL.out.take (by rw [fE, <-bd.out];omega))
   obtain ⟨rfl,bp⟩:=bl.out (by omega)
   have kl:=(HW.out.cell (p:=⟨lb,lo+i,none⟩) bp).trans (bf.out i b ao)
   have hb0:decide ((b:Int) < 0)=false:=by simp
   have hb1:decide ((nb:Int) <= (b:Int))=false:=by simp;omega
   have hilc:i <= lc:=by omega
   clear ao
   go_wp2_with fail
   refine (nT (bh.out.below HW.out)).mono ?_
   rintro e w3 ⟨rfl,rfl⟩
   rw [bi.out]
   --@B
   go_wp2
   go_roundw
   case rel=>exact ⟨i+1,hlt,rfl,by go_num,bj.out⟩
   simp [intOf];omega
  obtain rfl:n=i:=by omega
  --@C
  go_wp2_with fail
  refine (aE3 (HV.out.below HW.out) HC.out.1 (HL.out.below HW.out) (by rw [<-bn.out];exact aw.out) be.out).mono ?_
  rintro e w3 ⟨gv,cv,mb,S,S2,g2,rfl,hO,hI,bm,hF,bc,hb,ak,bb⟩
  obtain ⟨ax,cx,bx,dx,rfl, -, -, -, -⟩:=hO.reads.form
  obtain ⟨ay,cy,rfl⟩:=hI.ints.form
  have hz2:w.heap.size+1 < w2.heap.size:=B4.out.lt
  have HA:=h! (((kN hO hF).from (base':=w.heap.size+1+1) (by omega)).low (bs':=[w.heap.size,w.heap.size+1]) (by intro z hz;simp at hz;omega))
  have HI:=h! (((gF hI bc).from (base':=w.heap.size+1+1) (by omega)).low (bs':=[w.heap.size,w.heap.size+1]) (by intro z hz;simp at hz;omega))
  have az:=h! ak
  have br:=h! bb
  obtain ⟨ny,an⟩ : ∃ ny,ny=(iJ f.blocks.length L.length).length:=⟨_,rfl⟩
  rw [<-an] at HI
  rw [<-an]
  have bk:Hid (ny=L.length):=h! (by rw [an,lY])
  clear hO hI bm hF bc ak bb an
  clear ae ad ag ac af aa
  replace B2:=h! (B2.out.later hb)
  replace B4:=h! (B4.out.later hb)
  replace HW:=h! (HW.out.trans (hb.mono HW.out.size))
  clear hb
  obtain ⟨ae,ad,ag⟩:=B2.out
  obtain ⟨ac,af,aa⟩:=B4.out
  go_upto_region 15 with (fail)
  clear ae ad ag ac af aa
  have ah:=((((Only.set w3 (w.heap.size+1) 0 (.slice ax g2.params.length cx)).put 1 (.int .i64 g2.arrays)).put 2 (.int .i64 g2.cells)).put 3 (.slice bx g2.blocks.length dx))
  replace B2:=h! (B2.out.only ah (by first | assumption | (simp;done) | omega))
  replace HA:=h! ((((HA.out.other (p:=⟨w.heap.size+1,0,none⟩) (.slice ax g2.params.length cx) (by simp)).other (p:=⟨w.heap.size+1,1,none⟩) (.int .i64 g2.arrays) (by simp)).other (p:=⟨w.heap.size+1,2,none⟩) (.int .i64 g2.cells) (by simp)).other (p:=⟨w.heap.size+1,3,none⟩) (.slice bx g2.blocks.length dx) (by simp))
  replace HI:=h! ((((HI.out.other (p:=⟨w.heap.size+1,0,none⟩) (.slice ax g2.params.length cx) (by simp)).other (p:=⟨w.heap.size+1,1,none⟩) (.int .i64 g2.arrays) (by simp)).other (p:=⟨w.heap.size+1,2,none⟩) (.int .i64 g2.cells) (by simp)).other (p:=⟨w.heap.size+1,3,none⟩) (.slice bx g2.blocks.length dx) (by simp))
  replace HW:=h! (ah.2.2 HW.out (by first | assumption | omega | (have:=HW.out.size;omega) | (simp;done) | (simp;omega)))
  replace B4:=h! (Box.to (A':=#[(.slice ax g2.params.length cx),(.int .i64 g2.arrays),(.int .i64 g2.cells),(.slice bx g2.blocks.length dx)]) ((((B4.out.set 0 (.slice ax g2.params.length cx)).set 1 (.int .i64 g2.arrays)).set 2 (.int .i64 g2.cells)).set 3 (.slice bx g2.blocks.length dx)) (by first | rfl | simp))
  clear ah
  generalize ((((w3.setCell ⟨w.heap.size+1,0,none⟩ (.slice ax g2.params.length cx)).setCell ⟨w.heap.size+1,1,none⟩ (.int .i64 g2.arrays)).setCell ⟨w.heap.size+1,2,none⟩ (.int .i64 g2.cells)).setCell ⟨w.heap.size+1,3,none⟩ (.slice bx g2.blocks.length dx))=w4 at *
  obtain ⟨ae,ad,ag⟩:=B2.out
  obtain ⟨ac,af,aa⟩:=B4.out
  --@D
  go_wp2_with fail
  refine (aBF HA.out.now.reads).mono ?_
  rintro e w5 ⟨rfl,hb⟩
  obtain ⟨k,hk⟩ : ∃ k,k=eV g2:=⟨_,rfl⟩
  rw [<-hk]
  have HK:=h! hk
  clear hk
  clear ae ad ag ac af aa
  replace B2:=h! (B2.out.later hb)
  replace B4:=h! (B4.out.later hb)
  replace HA:=h! (HA.out.later hb)
  replace HI:=h! (HI.out.later hb)
  replace HW:=h! (HW.out.trans (hb.mono HW.out.size))
  clear hb
  obtain ⟨ae,ad,ag⟩:=B2.out
  obtain ⟨ac,af,aa⟩:=B4.out
  by_cases h0:k=0
  ·subst h0
   go_wp2
   clear ae ad ag ac af aa
   have ah:=((((Only.set w5 (w.heap.size+1) 0 (.slice ax g2.params.length cx)).put 1 (.int .i64 g2.arrays)).put 2 (.int .i64 g2.cells)).put 3 (.slice bx g2.blocks.length dx))
   replace B2:=h! (B2.out.only ah (by first | assumption | (simp;done) | omega))
   replace HA:=h! ((((HA.out.other (p:=⟨w.heap.size+1,0,none⟩) (.slice ax g2.params.length cx) (by simp)).other (p:=⟨w.heap.size+1,1,none⟩) (.int .i64 g2.arrays) (by simp)).other (p:=⟨w.heap.size+1,2,none⟩) (.int .i64 g2.cells) (by simp)).other (p:=⟨w.heap.size+1,3,none⟩) (.slice bx g2.blocks.length dx) (by simp))
   replace HI:=h! ((((HI.out.other (p:=⟨w.heap.size+1,0,none⟩) (.slice ax g2.params.length cx) (by simp)).other (p:=⟨w.heap.size+1,1,none⟩) (.int .i64 g2.arrays) (by simp)).other (p:=⟨w.heap.size+1,2,none⟩) (.int .i64 g2.cells) (by simp)).other (p:=⟨w.heap.size+1,3,none⟩) (.slice bx g2.blocks.length dx) (by simp))
   replace HW:=h! (ah.2.2 HW.out (by first | assumption | omega | (have:=HW.out.size;omega) | (simp;done) | (simp;omega)))
   replace B4:=h! (Box.to (A':=#[(.slice ax g2.params.length cx),(.int .i64 g2.arrays),(.int .i64 g2.cells),(.slice bx g2.blocks.length dx)]) ((((B4.out.set 0 (.slice ax g2.params.length cx)).set 1 (.int .i64 g2.arrays)).set 2 (.int .i64 g2.cells)).set 3 (.slice bx g2.blocks.length dx)) (by first | rfl | simp))
   clear ah
   generalize ((((w5.setCell ⟨w.heap.size+1,0,none⟩ (.slice ax g2.params.length cx)).setCell ⟨w.heap.size+1,1,none⟩ (.int .i64 g2.arrays)).setCell ⟨w.heap.size+1,2,none⟩ (.int .i64 g2.cells)).setCell ⟨w.heap.size+1,3,none⟩ (.slice bx g2.blocks.length dx))=w6 at *
   obtain ⟨ae,ad,ag⟩:=B2.out
   obtain ⟨ac,af,aa⟩:=B4.out
   --@E
   refine bodyPost_ret (v:=.tuple #[.agg #[.slice ax g2.params.length cx,.int .i64 g2.arrays,.int .i64 g2.cells,.slice bx g2.blocks.length dx],.slice ay ny cy,.int .i64 0]) (by simp [results,Tryz.results33,go_sem, *]) rfl ⟨_,_,_,_,_,_,_,_,_,_,_,0,rfl,HW.out,.inr ⟨rfl,g2,HA.out.now.reads,HI.out.now.ints,rfl,bk.out,HK.out.symm,az.out,br.out⟩⟩
  have hc1:(k != 0)=true:=by simpa using h0
  clear h0
  go_wp2
  clear ae ad ag ac af aa
  have ah:=((((Only.set w5 (w.heap.size+1) 0 (.slice none 0 0)).put 1 (.int .i64 0)).put 2 (.int .i64 0)).put 3 (.slice none 0 0))
  replace B2:=h! (B2.out.only ah (by first | assumption | (simp;done) | omega))
  replace HA:=h! ((((HA.out.other (p:=⟨w.heap.size+1,0,none⟩) (.slice none 0 0) (by simp)).other (p:=⟨w.heap.size+1,1,none⟩) (.int .i64 0) (by simp)).other (p:=⟨w.heap.size+1,2,none⟩) (.int .i64 0) (by simp)).other (p:=⟨w.heap.size+1,3,none⟩) (.slice none 0 0) (by simp))
  replace HI:=h! ((((HI.out.other (p:=⟨w.heap.size+1,0,none⟩) (.slice none 0 0) (by simp)).other (p:=⟨w.heap.size+1,1,none⟩) (.int .i64 0) (by simp)).other (p:=⟨w.heap.size+1,2,none⟩) (.int .i64 0) (by simp)).other (p:=⟨w.heap.size+1,3,none⟩) (.slice none 0 0) (by simp))
  replace HW:=h! (ah.2.2 HW.out (by first | assumption | omega | (have:=HW.out.size;omega) | (simp;done) | (simp;omega)))
  replace B4:=h! (Box.to (A':=#[(.slice none 0 0),(.int .i64 0),(.int .i64 0),(.slice none 0 0)]) ((((B4.out.set 0 (.slice none 0 0)).set 1 (.int .i64 0)).set 2 (.int .i64 0)).set 3 (.slice none 0 0)) (by first | rfl | simp))
  clear ah
  generalize ((((w5.setCell ⟨w.heap.size+1,0,none⟩ (.slice none 0 0)).setCell ⟨w.heap.size+1,1,none⟩ (.int .i64 0)).setCell ⟨w.heap.size+1,2,none⟩ (.int .i64 0)).setCell ⟨w.heap.size+1,3,none⟩ (.slice none 0 0))=w6 at *
  obtain ⟨ae,ad,ag⟩:=B2.out
  obtain ⟨ac,af,aa⟩:=B4.out
  --@F
  refine bodyPost_ret (v:=.tuple #[.agg #[.slice none 0 0,.int .i64 0,.int .i64 0,.slice none 0 0],.slice none 0 0,.int .i64 2]) (by simp [results,Tryz.results33,go_sem, *]) rfl ⟨_,_,_,_,_,_,_,_,_,_,_,2,rfl,HW.out,.inl rfl⟩
end Go.Proofs.YtagabiidbbhhmaaGreat
