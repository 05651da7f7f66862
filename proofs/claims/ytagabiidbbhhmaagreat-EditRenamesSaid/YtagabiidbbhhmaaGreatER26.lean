/- Part 26. -/
import Derived.Test.YtagabiidbbhhmaaGreatER24
import Derived.Test.YtagabiidbbhhmaaGreatER25
namespace Go.Proofs.YtagabiidbbhhmaaGreat
set_option maxHeartbeats 25600000
set_option linter.all false
section
open Go.RowKit
theorem fO.placed {f:FuncD} {O:List Nat} (h:fO f O):Placed (toB f) (fun b=>O.idxOf b):=by
 obtain ⟨h1,h2,h3,h4,h5⟩:=h.facts
 have aa:∀ {b:Nat},Way (toB f) (-1) b -> O[O.idxOf b]? = some b:=fun {b} hb=>by
  have hm:=(h2 b).2 hb
  have hl:=bM hm
  rw [aC hl,dI hl]
 refine ⟨oK h1 h4,fun {a b} ha hb e => ?_,fun {b} hb hb0 => ?_⟩
 ·have e1:=aa ha
  have e2:=aa hb
  have e:O.idxOf a=O.idxOf b:=e
  rw [e,e2] at e1
  cases e1;rfl
 obtain ⟨j,p,hj,hp,ab⟩:=h5 _ b (aa hb) hb0
 exact ⟨p,(h2 p).1 (aG hp),ab,by show O.idxOf p < O.idxOf b;rw [oK h1 hp];exact hj⟩
def encI (n:Nat) (I:Nat -> Option Nat):List Int:=(List.range n).map fun b=>match I b with | none => -1 | some p=>(p:Int)
theorem nO (n:Nat) (I:Nat -> Option Nat):(encI n I).length=n:=by simp [encI]
theorem mP {n b:Nat} {I:Nat -> Option Nat} (h:b < n):(encI n I)[b]? = some (match I b with | none => -1 | some p=>(p:Int)):=by simp [encI,h]
theorem lZ {n b p:Nat} {I:Nat -> Option Nat} (h:b < n) (hp:I b=some p):(encI n I)[b]? = some (p:Int):=by rw [mP h,hp]
theorem aBG {n b:Nat} {I:Nat -> Option Nat} (h:b < n) (hp:I b=none):(encI n I)[b]? = some (-1):=by rw [mP h,hp]
theorem aDF {n b m:Nat} {I:Nat -> Option Nat} (h:b < n):(encI n I).set b (m:Int)=encI n (upd' I b m):=by
 apply bJ
 intro t
 rw [cJ,nO]
 by_cases ht:t < n
 ·rw [mP ht,mP ht]
  by_cases e:b=t
  ·subst e;rw [if_pos rfl,if_pos h,nY]
  rw [if_neg e,mT I m (Ne.symm e)]
 rw [aT (by rw [nO];omega),aT (by rw [nO];omega)]
 split <;> simp_all
theorem yF (n:Nat):encI n (fun _=>none)=List.replicate n (-1):=by
 apply bJ
 intro t
 by_cases ht:t < n
 ·rw [mP ht];simp [ht]
 rw [aT (by rw [nO];omega),aT (by simp;omega)]
theorem mA {n b:Nat} {O:List Nat} (h:b < n):(iI n O O.length)[b]? = some (if b ∈ O then ((O.idxOf b:Nat):Int) else -1):=by
 unfold iI;rw [cX];simp [h]
theorem pJ {n b:Nat} {O:List Nat} (h:b < n) (hb:b ∈ O):(iI n O O.length)[b]? = some ((O.idxOf b:Nat):Int):=by rw [mA h,if_pos hb]
theorem tF {n b:Nat} {O:List Nat} (h:b < n) (hb:b ∉ O):(iI n O O.length)[b]? = some (-1):=by rw [mA h,if_neg hb]
structure TreeM (f:FuncD) (W:World) (bt bg lg lcap:Nat) (g:Array Value) (pv ov lv:Value) (O:List Nat) (I:Nat -> Option Nat):Prop where
 tree:Box W bt #[.pointer (some ⟨bg,0,none⟩),.slice (some ⟨lg,0,none⟩) f.blocks.length lcap]
 graph:Box W bg (g ++ #[pv,ov,lv])
 gsize:g.size=4
 idom:Cells W (.slice (some ⟨lg,0,none⟩) f.blocks.length lcap) lg (encI f.blocks.length I)
 preds:nQ W pv (gZ f)
 order:Ints W ov (natI O)
 place:Ints W lv (iI f.blocks.length O O.length)
theorem TreeM.later {f:FuncD} {W W' : World} {bt bg lg lcap:Nat} {g:Array Value} {pv ov lv:Value} {O:List Nat} {I:Nat -> Option Nat} (h:TreeM f W bt bg lg lcap g pv ov lv O I) (hb:Below W.heap.size W W'):TreeM f W' bt bg lg lcap g pv ov lv O I :=
 ⟨h.tree.later hb,h.graph.later hb,h.gsize,h.idom.later hb,h.preds.below hb,h.order.below hb,h.place.below hb⟩
theorem aF5 (g:Array Value) (pv ov lv:Value) (h:g.size=4):(g ++ #[pv,ov,lv])[4]? = some pv/\(g ++ #[pv,ov,lv])[5]? = some ov/\(g ++ #[pv,ov,lv])[6]? = some lv:=by
 refine ⟨?_, ?_, ?_⟩ <;> rw [Array.getElem?_append_right (by omega),h] <;> rfl
theorem TreeM.cells {f:FuncD} {W:World} {bt bg lg lcap:Nat} {g:Array Value} {pv ov lv:Value} {O:List Nat} {I:Nat -> Option Nat} (h:TreeM f W bt bg lg lcap g pv ov lv O I) :
  W.cell? ⟨bt,0,none⟩=some (.pointer (some ⟨bg,0,none⟩))/\W.cell? ⟨bt,1,none⟩=some (.slice (some ⟨lg,0,none⟩) f.blocks.length lcap)/\W.cell? ⟨bg,4,none⟩=some pv/\W.cell? ⟨bg,5,none⟩=some ov/\W.cell? ⟨bg,6,none⟩=some lv:=by
 obtain ⟨e4,e5,e6⟩:=aF5 g pv ov lv h.gsize
 exact ⟨h.tree.at 0 rfl,h.tree.at 1 rfl,h.graph.at 4 e4,h.graph.at 5 e5,h.graph.at 6 e6⟩
theorem aBH {W:World} {f:FuncD} {bt bg lg lcap:Nat} {g:Array Value} {pv ov lv:Value} {O:List Nat} {I:Nat -> Option Nat} (hT:TreeM f W bt bg lg lcap g pv ov lv O I) (hO:fO f O) (h512:f.blocks.length <= 512) (hI:Tree (toB f) (fun b=>O.idxOf b) I)
  {x y:Nat} (hx:Proc I x) (hy:Proc I y) :
  Calls Tryz.prog 178 #[.pointer (some ⟨bt,0,none⟩),.int .i64 x,.int .i64 y] W fun e w' => ∃ m:Nat,e = .returned (.int .i64 m)/\Proc I m/\(∀ c,Anc I c m ↔ (Anc I c x/\Anc I c y))/\Below W.heap.size W w':=by
 obtain ⟨bm,bd, -, -,ay⟩:=hT.cells
 obtain ⟨pa,pc,pb,po,bo,bp,hpm,ak,bl⟩:=hT.place.parts
 rw [fY] at bo bp ak
 subst bo
 obtain ⟨lc2, -, -, -,am,bO⟩:=hT.idom.form
 obtain ⟨h1,h2,h3,h4,h5⟩:=hO.facts
 have hP:=hO.placed
 obtain ⟨nb,az⟩ : ∃ nb,nb=f.blocks.length:=⟨_,rfl⟩
 rw [<-az] at bd bp ak am h512 h3 ay
 have bz:0 < nb:=by have:=h3 0 (aG h4);omega
 obtain ⟨rfl,bq⟩:=ak bz
 have ae:=hT.idom.lt
 have af:=hT.tree.lt
 have ba:=hT.graph.lt
 have cc:=h! bm
 have cb:=h! bd
 have ca:=h! ay
 have bk:=h! bl
 have bx:=h! am
 have ai:=h! hI
 have an:=h! hP
 have al:=h! h2
 have br:=h! h3
 have HX:=h! hx
 have HY:=h! hy
 have aj:=h! az
 have HW:=h! (Below.refl W.heap.size W)
 clear hT bm bd ay bl am bO h1 h2 h3 h4 h5 hP hI hO hx hy az ak
 go_enter Tryz.func178,Tryz.ntmps178
 go_wp2_with fail
 go_loopw [1,2] (fun u v wr => ∃ a b:Nat,u = .int .i64 a/\v = .int .i64 b/\Proc I a/\Proc I b/\(∀ c,(Anc I c a/\Anc I c b) ↔ (Anc I c x/\Anc I c y))/\Below W.heap.size W wr) (fun u v _=>O.idxOf (intOf u).toNat+O.idxOf (intOf v).toNat)
 case atStart=>exact ⟨x,y,rfl,rfl,HX.out,HY.out,fun _=>Iff.rfl,HW.out⟩
 case round =>
  obtain ⟨a,b,rfl,rfl,ha,hb,bv,hW⟩:=hrel
  have aw:=ai.out.proc_way ha
  have bj:=ai.out.proc_way hb
  have be:=br.out a ((al.out a).2 aw)
  have ax:=br.out b ((al.out b).2 bj)
  have HA:=h! ha
  have HB:=h! hb
  have bc:=h! bv
  have bn:=h! aw
  have bw:=h! bj
  replace HW:=h! hW
  clear ha hb bv aw bj hW
  by_cases hne:a=b
  ·have hq:((a:Int) != (b:Int))=false:=by simp [hne]
   have bi:=h! hne
   clear hne
   go_wp2
   go_ret
   refine ⟨a,rfl,HA.out,fun c => ?_,HW.out⟩
   rw [<-bc.out c, <-bi.out]
   exact ⟨fun h=>⟨h,h⟩,fun h=>h.1⟩
  have hq:((a:Int) != (b:Int))=true:=by simp;omega
  have bi:=h! hne
  have d0:=(HW.out.cell (p:=⟨bt,0,none⟩) af).trans cc.out
  have d1:=(HW.out.cell (p:=⟨bt,1,none⟩) af).trans cb.out
  have d6:=(HW.out.cell (p:=⟨bg,6,none⟩) ba).trans ca.out
  have ab:(iI f.blocks.length O O.length).getD a 0=((O.idxOf a:Nat):Int):=by rw [aK,pJ (by rw [<-aj.out];exact be) ((al.out a).2 bn.out)];rfl
  have ac:(iI f.blocks.length O O.length).getD b 0=((O.idxOf b:Nat):Int):=by rw [aK,pJ (by rw [<-aj.out];exact ax) ((al.out b).2 bw.out)];rfl
  have da:=(HW.out.cell (p:=⟨pb,po+a,none⟩) bq).trans (bk.out a (by rw [fY, <-aj.out];exact be))
  have db:=(HW.out.cell (p:=⟨pb,po+b,none⟩) bq).trans (bk.out b (by rw [fY, <-aj.out];exact ax))
  rw [ab] at da
  rw [ac] at db
  have bs:Hid (∃ pa:Nat,pa=O.idxOf a):=h! ⟨_,rfl⟩
  obtain ⟨ia,bf⟩:=bs.out
  obtain ⟨ib,bh⟩ : ∃ ib,ib=O.idxOf b:=⟨_,rfl⟩
  rw [<-bf] at da
  rw [<-bh] at db
  have ap:=h! bf
  have aq:=h! bh
  clear hne ab ac bf bh bs
  by_cases hlt:ib < ia
  ·have hg:decide ((ib:Int) < (ia:Int))=true:=by simp;exact hlt
   obtain ⟨p,hp,ah,ag,aa⟩:=ai.out.meets an.out.zero HA.out (y:=b) (by show O.idxOf b < O.idxOf a;rw [<-ap.out, <-aq.out];exact hlt)
   have dp:=(HW.out.cell (p:=⟨lg,a,none⟩) ae).trans (bx.out a p (lZ be hp))
   have ao:=h! ah
   have bb:=h! ag
   have ar:=h! aa
   clear hp ah ag aa
   go_upto_region 2 with (fail)
   go_quiet (fail)
   go_wp2
   go_roundw
   case rel=>exact ⟨p,b,rfl,rfl,ao.out,HB.out,fun c=>(ar.out c).trans (bc.out c),eW HW.out _⟩
   have h9:=bb.out
   simp only [intOf,dO] at h9 ⊢
   omega
  have hg:decide ((ib:Int) < (ia:Int))=false:=by simp;omega
  have ad:O.idxOf a < O.idxOf b:=by
   rw [<-ap.out, <-aq.out]
   rcases dQ ia ib with h | h
   ·exact h
   exact absurd (an.out.inj bn.out bw.out (by show O.idxOf a=O.idxOf b;rw [<-ap.out, <-aq.out];omega)) bi.out
  obtain ⟨p,hp,ah,ag,aa⟩:=ai.out.meets an.out.zero HB.out (y:=a) ad
  have dp:=(HW.out.cell (p:=⟨lg,b,none⟩) ae).trans (bx.out b p (lZ ax hp))
  have ao:=h! ah
  have bb:=h! ag
  have ar:=h! aa
  clear hp ah ag aa ad
  go_upto_region 2 with (fail)
  go_quiet (fail)
  go_wp2
  go_roundw
  case rel=>exact ⟨a,p,rfl,rfl,HA.out,ao.out,fun c=>(and_comm.trans ((ar.out c).trans and_comm)).trans (bc.out c),eW HW.out _⟩
  have h9:=bb.out
  simp only [intOf,dO] at h9 ⊢
  omega
end
section
open Go.RowKit
structure DomI (f:FuncD) (O:List Nat) (I:Nat -> Option Nat):Prop where
 tree:Tree (toB f) (fun b=>O.idxOf b) I
 proc:∀ {v:Nat},Way (toB f) (-1) v -> Proc I v
 anc:∀ {c v:Nat},Way (toB f) (-1) v -> (Anc I c v ↔ ¬ Way (toB f) (c:Int) v)
def NowI (f:FuncD) (I:Nat -> Option Nat) (l:List Nat) (x:Int):Prop :=
 (x = -1 /\ ∀ p ∈ l,Way (toB f) (-1) p -> ¬ Proc I p) \/ ∃ m:Nat,x=m/\Proc I m /\ ∀ c,Anc I c m ↔ ∀ p ∈ l,Way (toB f) (-1) p -> Proc I p -> Anc I c p
theorem NowI.skip {f:FuncD} {I:Nat -> Option Nat} {l:List Nat} {x:Int} {p:Nat} (h:NowI f I l x) (hp:Way (toB f) (-1) p -> ¬ Proc I p):NowI f I (l ++ [p]) x:=by
 rcases h with ⟨rfl,h⟩ | ⟨m,rfl,h1,h2⟩
 ·exact .inl ⟨rfl,fun q hq=>by rcases aM.1 hq with hq | hq;exact h q hq;simp at hq;subst hq;exact hp⟩
 refine .inr ⟨m,rfl,h1,fun c=>(h2 c).trans ⟨fun h q hq => ?_,fun h q hq=>h q (aM.2 (.inl hq))⟩⟩
 rcases aM.1 hq with hq | hq
 ·exact h q hq
 simp at hq;subst hq
 exact fun h3 h4=>absurd h4 (hp h3)
theorem NowI.first {f:FuncD} {I:Nat -> Option Nat} {l:List Nat} {p:Nat} (h:∀ q ∈ l,Way (toB f) (-1) q -> ¬ Proc I q) (hw:Way (toB f) (-1) p) (hp:Proc I p):NowI f I (l ++ [p]) p:=by
 refine .inr ⟨p,rfl,hp,fun c=>⟨fun hc q hq h3 h4 => ?_,fun h=>h p (aM.2 (.inr (by simp))) hw hp⟩⟩
 rcases aM.1 hq with hq | hq
 ·exact absurd h4 (h q hq h3)
 simp at hq;subst hq;exact hc
theorem NowI.more {f:FuncD} {I:Nat -> Option Nat} {l:List Nat} {m m' p:Nat} (h:∀ c,Anc I c m ↔ ∀ q ∈ l,Way (toB f) (-1) q -> Proc I q -> Anc I c q) (hw:Way (toB f) (-1) p) (hp:Proc I p) (hm:Proc I m')
  (hmm:∀ c,Anc I c m' ↔ (Anc I c m/\Anc I c p)):NowI f I (l ++ [p]) m':=by
 refine .inr ⟨m',rfl,hm,fun c=>(hmm c).trans ⟨fun ⟨h1,h2⟩ q hq h3 h4 => ?_,fun h1=>⟨(h c).2 fun q hq=>h1 q (aM.2 (.inl hq)),h1 p (aM.2 (.inr (by simp))) hw hp⟩⟩⟩
 rcases aM.1 hq with hq | hq
 ·exact (h c).1 h1 q hq h3 h4
 ·simp at hq;subst hq;exact h2
theorem NowI.done {f:FuncD} {I:Nat -> Option Nat} {b:Nat} {x:Int} (h:NowI f I (gJ f f.blocks.length 0 b) x) (hlow:∀ p,Way (toB f) (-1) p -> p < f.blocks.length) (hex:∃ p,Way (toB f) (-1) p/\b ∈ toB f p/\Proc I p):∃ m:Nat,x=m/\lK (toB f) I b m:=by
 have aa:∀ p,Way (toB f) (-1) p -> (p ∈ gJ f f.blocks.length 0 b ↔ b ∈ toB f p):=fun p hp=>by
  rw [iM,List.mem_filter]
  constructor
  ·intro h;simpa using h.2
  intro h;exact ⟨List.mem_range.2 (hlow p hp),by simpa using h⟩
 rcases h with ⟨rfl,h⟩ | ⟨m,rfl,h1,h2⟩
 ·obtain ⟨p,p1,p2,p3⟩:=hex
  exact absurd p3 (h p ((aa p p1).2 p2) p1)
 exact ⟨m,rfl,h1,fun c=>(h2 c).trans ⟨fun h p hp hw hpp=>h p ((aa p hw).2 hp) hw hpp,fun h p hp hw hpp=>h p ((aa p hw).1 hp) hw hpp⟩⟩
def aEU (f:FuncD) (v:Value) (bg:Nat) (O:List Nat) (w:World) (e:Ending) (w' : World):Prop :=
 ∃ (bt lg lcap:Nat) (g:Array Value) (pv ov lv:Value) (I:Nat -> Option Nat),e = .returned (.pointer (some ⟨bt,0,none⟩))/\v = .agg g/\TreeM f w' bt bg lg lcap g pv ov lv O I/\DomI f O I/\Below w.heap.size w w'
set_option maxRecDepth 100000 in
theorem aF6 {w w0:World} {v:Value} {f:FuncD} {bg:Nat} {O:List Nat} (hv:fU w v f) (hG:nC f v w0 w bg O) (hO:fO f O) (hf:gW f=true) :
  Calls Tryz.prog 135 #[.pointer (some ⟨bg,0,none⟩)] w (aEU f v bg O w):=by
 obtain ⟨et,cx⟩:=iE hf
 obtain ⟨ap,cp,ab,cb,dg, -, -, -, -⟩:=hv.form
 obtain ⟨a0,a1,a2,a3,pv,ov,lv,e1,hB,hbg0,hP,hL,hI⟩:=hG
 rw [dg] at e1
 injection e1 with e1
 injection e1 with e1
 injection e1 with e10 e1
 injection e1 with e11 e1
 injection e1 with e12 e1
 injection e1 with e13 e1
 subst e10 e11 e12 e13
 subst dg
 obtain ⟨h1,h2,h3,h4,h5⟩:=hO.facts
 have cz:=hO.placed
 have ds:=hO.le
 obtain ⟨oa,oc,ob,oo,cr,bq,hom,bs,de⟩:=hL.parts
 obtain ⟨vs,pa,pc,pb,po,dl,dq,hpm,eb,ce,cM,dc⟩:=hP.parts
 obtain ⟨la,lc,lb,lo,bm,dj,hlm,bx,dy⟩:=hI.parts
 rw [fT] at cr bq bs
 have ao:(gZ f).length=f.blocks.length:=by unfold gZ;rw [iL]
 rw [ao] at dl dq ce eb
 rw [fY] at bm dj bx
 obtain ⟨K,hK⟩:=aCB (toB f) (fun b=>O.idxOf b) f.blocks.length
 obtain ⟨m,hm⟩ : ∃ m,m=O.length:=⟨_,rfl⟩
 have ax:1 <= m:=by rw [hm];have:=(aF.1 h4).1;omega
 have fo:m <= f.blocks.length:=by rw [hm];exact ds
 rw [<-hm] at cr bq bs
 obtain ⟨rfl,fF⟩:=bs (by omega)
 obtain ⟨rfl,fm⟩:=ce (by omega)
 obtain ⟨rfl,ef⟩:=bx (by omega)
 have ed:=h! hP
 have fv:=h! hL
 have fh:=h! hI
 have fw:=h! hB
 subst cr dl bm
 have ai:=hB.at 3 rfl
 have aw:=hB.at 4 rfl
 have bl:=hB.at 5 rfl
 have ar:=hB.at 6 rfl
 have bb:=hB.lt
 obtain ⟨nb,ch⟩ : ∃ nb,nb=f.blocks.length:=⟨_,rfl⟩
 have fj:=h! h1
 have bf:=h! h2
 have ew:=h! h3
 have HH4:=h! h4
 have aj:=h! cz
 obtain ⟨m,rfl⟩ : ∃ m',m=m' + 1:=⟨m - 1,by omega⟩
 have HM:=h! hm
 have fy:=h! bq
 have fk:=h! de
 have en:=h! cM
 have fb:=h! dc
 have ex:=h! dy
 have HK:=h! hK
 have dh:=h! hO
 have dv:=h! ao
 rw [<-ch] at ai aw ar dq eb dj et cx fo
 have ad:=h! ch
 have fl:=h! ai
 have ev:=h! aw
 have eg:=h! bl
 have ee:=h! ar
 have hn0:(0:Int) <= (nb:Int):=by omega
 clear h1 h2 h3 h4 h5 cz ds hm bq ax de cM dc dy hK hO ao hP hL hI hB bs ce bx hv hf ch ai aw bl ar
 have ai:=fl.out
 go_enter Tryz.func135,Tryz.ntmps135
 go_wp2_with fail
 have ec:=(Below.refl w.heap.size w).alloc (aB _) (.cells #[.int .i64 (-1)] 3)
 refine (oO (x := -1) (n:=nb) (oZ (Box.new w _ _) ⟨by decide,by decide⟩) (by omega)).mono ?_
 rintro e w2 ⟨u,rfl,hu,hb2⟩
 obtain ⟨lg,ae,dw⟩:=hu.cells (by simp;omega)
 obtain ⟨aa,dk, -, -, -, -⟩:=ae.form
 rw [aR] at dk
 subst dk
 have HW:Hid (Below w.heap.size w w2):=h! (ec.trans (hb2.mono (by simp)))
 have ac:Hid (Cells w2 (.slice (some ⟨lg,0,none⟩) nb aa) lg (encI nb fun _=>none)):=h! (by rw [yF];exact ae)
 have cG:Hid (w.heap.size < lg):=h! (by have:=dw;simp at this;omega)
 clear ec hu hb2 ae dw
 go_upto_region 2 with (fail)
 have hl2:=ac.out.lt
 have er:=HW.out.size
 have cd:=(Below.refl w2.heap.size w2).alloc (aB _) (.cells #[.pointer (some ⟨bg,0,none⟩),.slice (some ⟨lg,0,none⟩) nb aa] 153)
 replace ac:=h! (ac.out.later cd)
 replace HW:=h! (HW.out.trans (cd.mono HW.out.size))
 clear cd
 have BT:=h! (Box.new w2 #[.pointer (some ⟨bg,0,none⟩),.slice (some ⟨lg,0,none⟩) nb aa] 153)
 generalize w2.alloc (.cells #[.pointer (some ⟨bg,0,none⟩),.slice (some ⟨lg,0,none⟩) nb aa] 153)=w3 at *
 obtain ⟨ei,fs,ep⟩:=BT.out
 clear ei fs ep
 obtain ⟨bt,ag⟩ : ∃ bt,bt=w2.heap.size:=⟨_,rfl⟩
 rw [<-ag] at BT
 have di:Hid (lg < bt/\w.heap.size < bt/\w.heap.size < lg):=h! (by have:=cG.out;omega)
 simp only [<-ag]
 clear ag hl2 er cG
 have cm:Hid (∀ (wr:World) (I:Nat -> Option Nat),Below w.heap.size w wr -> Box wr bt #[.pointer (some ⟨bg,0,none⟩),.slice (some ⟨lg,0,none⟩) nb aa] -> Cells wr (.slice (some ⟨lg,0,none⟩) nb aa) lg (encI nb I) ->
   TreeM f wr bt bg lg aa #[.slice ap f.params.length cp,.int .i64 f.arrays,.int .i64 f.cells,.slice ab nb cb] (.slice (some ⟨pb,po,none⟩) nb pc) (.slice (some ⟨ob,oo,none⟩) (m+1) oc) (.slice (some ⟨lb,lo,none⟩) nb lc) O I):=h! (fun wr I h1 h2 h3=>by
  have hP:=ed.out.below h1
  have hL:=fv.out.below h1
  have hI:=fh.out.below h1
  have hB:=fw.out.later h1
  rw [<-ad.out] at hP hI hB
  exact ⟨by rw [<-ad.out];exact h2,hB,rfl,by rw [<-ad.out];exact h3,hP,hL,by rw [<-ad.out];exact hI⟩)
 have ci:Hid (∀ v:Nat,Way (toB f) (-1) v -> v < nb):=h! (fun v hv=>by rw [ad.out];exact ew.out v ((bf.out v).2 hv))
 have af:Hid (Run (toB f) (fun b=>O.idxOf b) (fun _=>none) 0 1):=h! (Run.start aj.out)
 go_wp2_with fail
 go_loopg [4] (K+3) (fun fuel cv wr => ∃ (k:Nat) (I:Nat -> Option Nat) (chg:Bool),cv = .bool chg/\Run (toB f) (fun b=>O.idxOf b) I k 1/\(chg=false -> 0 < k /\ ∀ b:Nat,Way (toB f) (-1) b -> b ≠ 0 -> ∃ m,I b=some m/\lK (toB f) I b m)/\(chg=true -> k <= K+1)/\k+fuel=K+3 /\
  Box wr bt #[.pointer (some ⟨bg,0,none⟩),.slice (some ⟨lg,0,none⟩) nb aa]/\Cells wr (.slice (some ⟨lg,0,none⟩) nb aa) lg (encI nb I)/\Below w.heap.size w wr)
 case atStart=>exact ⟨0,_,true,rfl,af.out,(fun h=>by cases h),(fun _=>by omega),by omega,BT.out,ac.out,HW.out⟩
 case round =>
  obtain ⟨k,I,chg,rfl,hR,hF,hT,hk,ag,ae,hW⟩:=hrel
  replace af:=h! hR
  have bc:=h! hF
  have bn:=h! hT
  replace BT:=h! ag
  replace ac:=h! ae
  replace HW:=h! hW
  clear hR hF hT ag ae hW
  generalize wr=w4 at *
  cases chg
  ·have ej:Hid (DomI f O I):=h! ⟨af.out.tree,fun hv=>af.out.proc hv (.inr (bc.out rfl).1),fun hv=>af.out.fixed (fun hv=>af.out.proc hv (.inr (bc.out rfl).1)) (fun {b}=>(bc.out rfl).2 b) hv⟩
   have fc:=h! (cm.out w4 I HW.out BT.out ac.out)
   go_wp2
   go_ret
   exact ⟨bt,lg,aa,_,_,_,_,I,rfl,by rw [ad.out],fc.out,ej.out,HW.out⟩
  have df:=bn.out rfl
  have fG:=h! df
  clear df bc bn
  have fq:=h! hk
  have hfuel:0 < gk:=by have:=fG.out;omega
  clear hk
  have d5:=(HW.out.cell (p:=⟨bg,5,none⟩) bb).trans eg.out
  rcases Decidable.em (oc=1) with bh | bh
  all_goals
   try subst bh
   go_wp2_with fail
   clear d5
   go_loopw [4,28] (fun cv iv wr => ∃ (i:Nat) (I:Nat -> Option Nat) (chg:Bool),i <= m/\iv = .int .i64 i/\cv = .bool chg/\Run (toB f) (fun b=>O.idxOf b) I k (i+1)/\(chg=false -> ∀ b:Nat,Way (toB f) (-1) b -> b ≠ 0 -> O.idxOf b < i+1 -> ∃ m,I b=some m/\lK (toB f) I b m)/\(chg=true -> k <= K) /\
    Box wr bt #[.pointer (some ⟨bg,0,none⟩),.slice (some ⟨lg,0,none⟩) nb aa]/\Cells wr (.slice (some ⟨lg,0,none⟩) nb aa) lg (encI nb I)/\Below w.heap.size w wr) (fun _ iv _=>m - (intOf iv).toNat)
   case atStart=>exact ⟨0,I,false,aJ _,rfl,rfl,af.out,(fun _ b hb hb0 hl=>absurd (aj.out.inj hb (.zero (by decide)) (by rw [aj.out.zero];exact Nat.lt_one_iff.1 hl)) hb0),(fun h=>by cases h),BT.out,ac.out,HW.out⟩
   obtain ⟨i,I2,chg,hi,rfl,rfl,hR,hF,hT,ag,ae,hW⟩:=hrel
   replace af:=h! hR
   have bc:=h! hF
   have bn:=h! hT
   replace BT:=h! ag
   replace ac:=h! ae
   replace HW:=h! hW
   clear hR hF hT ag ae hW
   generalize wr=w5 at *
   by_cases hlt:i < m
   ·try (exfalso;have:=fy.out;omega)
    all_goals
     obtain ⟨b,hb⟩ : ∃ b,O[i+1]? = some b:=⟨_,aC (by have:=HM.out;omega)⟩
     have bO:=aG hb
     have cg:=(bf.out b).1 bO
     have an:=ci.out b cg
     have cl:=oK fj.out hb
     have hb0:b ≠ 0:=fun e=>by rw [e,aj.out.zero] at cl;omega
     have HBM:=h! bO
     have bv:=h! cg
     have bp:=h! cl
     have cw:=h! hb0
     have da:=(HW.out.cell (p:=⟨ob,oo+(i+1),none⟩) fF).trans (fk.out (i+1) (by rw [fT, <-HM.out];omega))
     rw [show (natI O).getD (i+1) 0=(b:Int) by unfold natI;rw [aK,aQ,hb];rfl,show oo+(i+1)=oo+1+i by omega] at da
     have d4:=(HW.out.cell (p:=⟨bg,4,none⟩) bb).trans ev.out
     obtain ⟨ps,bi⟩ : ∃ ps,ps=gJ f f.blocks.length 0 b:=⟨_,rfl⟩
     have fg:=h! bi
     have dt:(gZ f).getD b []=natI ps:=by
      rw [bi,aK]
      unfold gZ
      rw [kB (by rw [<-ad.out];exact an)]
      rfl
     have dr:∀ p ∈ ps,p < nb:=fun p hp=>by
      rw [bi,iM] at hp
      rw [ad.out]
      exact cS.1 (List.mem_filter.1 hp).1
     have bz:=(HW.out.cell (p:=⟨pb,po+b,none⟩) fm).trans (en.out b (by rw [dv.out, <-ad.out];exact an))
     have dd:Ints w (vs.getD b undef) (natI ps):=by
      have h9:=fb.out b (by rw [dv.out, <-ad.out];exact an)
      rwa [dt] at h9
     have eh:ps.length <= nb+1:=by rw [bi,ad.out];exact oI f f.blocks.length 0 b
     obtain ⟨qa,qc,qb,qo,dn,cL,hqm,cs,dx⟩:=dd.parts
     rw [dn] at bz
     obtain ⟨pl,ak⟩ : ∃ pl,pl=ps.length:=⟨_,rfl⟩
     rw [fT, <-ak] at bz cL cs
     rw [<-ak] at eh
     have az:=h! ak
     have fz:=h! cs
     have ff:=h! dx
     have cf:=h! dr
     clear hb bO cg cl hb0 bi dt dr dd dn ak cs dx cL
     have fi:Hid (NowI f I2 (ps.take 0) (-1)):=h! (.inl ⟨rfl,by simp⟩)
     go_wp2_with fail
     clear da d4 bz
     go_loopw [7,40] (fun nv qv wr => ∃ (q:Nat) (x:Int),q <= pl/\qv = .int .i64 q/\nv = .int .i64 x/\NowI f I2 (ps.take q) x /\
      Box wr bt #[.pointer (some ⟨bg,0,none⟩),.slice (some ⟨lg,0,none⟩) nb aa]/\Cells wr (.slice (some ⟨lg,0,none⟩) nb aa) lg (encI nb I2)/\Below w.heap.size w wr) (fun _ qv _=>pl - (intOf qv).toNat)
     case atStart=>exact ⟨0, -1,aJ _,rfl,rfl,fi.out,BT.out,ac.out,HW.out⟩
     obtain ⟨q,x,hq,rfl,rfl,bj,ag,ae,hW⟩:=hrel
     have ah:=h! bj
     replace BT:=h! ag
     replace ac:=h! ae
     replace HW:=h! hW
     clear bj ag ae hW
     generalize wr=w7 at *
     obtain ⟨lB,cB,fB⟩:=BT.out
     obtain ⟨lc2, -, -, -,bd,br⟩:=ac.out.form
     have dz:=h! bd
     by_cases hltq:q < pl
     ·obtain ⟨rfl,fp⟩:=fz.out (by omega)
      obtain ⟨p,hp⟩ : ∃ p,ps[q]? = some p:=⟨_,aC (by have:=az.out;omega)⟩
      have am:p < nb:=cf.out p (aG hp)
      have fe:=(HW.out.cell (p:=⟨qb,qo+q,none⟩) fp).trans (ff.out q (by rw [fT, <-az.out];exact hltq))
      rw [show (natI ps).getD q 0=(p:Int) by unfold natI;rw [aK,aQ,hp];rfl] at fe
      have be:Hid (ps.take (q+1)=ps.take q ++ [p]):=h! (eT _ _ _ hp)
      have d6:=(HW.out.cell (p:=⟨bg,6,none⟩) bb).trans ee.out
      have ca:=(HW.out.cell (p:=⟨lb,lo+p,none⟩) ef).trans (ex.out p (by rw [fY, <-ad.out];exact am))
      rw [aK,mA (by rw [<-ad.out];exact am),dE] at ca
      clear hp bd br
      by_cases hpO:p ∈ O
      ·have db:=(bf.out p).1 hpO
       rw [if_pos hpO] at ca
       have bo:=h! db
       have hneg:decide (((O.idxOf p:Nat):Int) < 0)=false:=by simp
       clear hpO db
       by_cases hp0:p=0
       ·have ft:((p:Int) != 0)=false:=by simp [hp0]
        have ay:Hid (Proc I2 p):=h! (.inl hp0)
        clear hp0
        rcases ah.out with ⟨ba,hx⟩ | ⟨m1,ba,ax,hx⟩
        ·subst ba
         have HX:=h! hx
         clear hx
         go_wp2
         go_roundw
         case rel=>exact ⟨q+1,p,hltq,by go_num,rfl,by rw [be.out];exact NowI.first HX.out bo.out ay.out,BT.out,ac.out,HW.out⟩
         simp [intOf];omega
        subst ba
        have HX:=h! hx
        have cy:=h! ax
        have co:decide ((m1:Int) < 0)=false:=by simp
        clear hx ax
        go_wp2_with fail
        refine (aBH (cm.out w7 I2 HW.out BT.out ac.out) dh.out (by rw [<-ad.out];exact cx) af.out.tree cy.out ay.out).mono ?_
        rintro e w8 ⟨m2,rfl,bk,aq,al⟩
        have cc:=h! bk
        have cq:=h! aq
        have ct:=h! (BT.out.later al)
        have cj:=h! (ac.out.later al)
        have cn:=h! (HW.out.trans (al.mono HW.out.size))
        clear bk aq al
        go_wp2
        go_roundw
        case rel=>exact ⟨q+1,m2,hltq,by go_num,rfl,by rw [be.out];exact NowI.more HX.out bo.out ay.out cc.out cq.out,ct.out,cj.out,cn.out⟩
        simp [intOf];omega
       have ft:((p:Int) != 0)=true:=by simpa using hp0
       cases hIp:I2 p with
       | none =>
        have ek:=dz.out p (-1) (aBG am hIp)
        have ey:Hid (¬ Proc I2 p):=h! (fun h=>by
         rcases h with h | h
         ·exact hp0 h
         rw [hIp] at h;cases h)
        clear hp0 hIp
        go_wp2
        go_roundw
        case rel=>exact ⟨q+1,x,hltq,by go_num,rfl,by rw [be.out];exact ah.out.skip (fun _=>ey.out),BT.out,ac.out,HW.out⟩
        simp [intOf];omega
       | some r =>
        have ek:=dz.out p r (lZ am hIp)
        have ay:Hid (Proc I2 p):=h! (.inr (by rw [hIp];rfl))
        have hrn:decide ((r:Int) < 0)=false:=by simp
        clear hp0 hIp
        rcases ah.out with ⟨ba,hx⟩ | ⟨m1,ba,ax,hx⟩
        ·subst ba
         have HX:=h! hx
         clear hx
         go_wp2
         go_roundw
         case rel=>exact ⟨q+1,p,hltq,by go_num,rfl,by rw [be.out];exact NowI.first HX.out bo.out ay.out,BT.out,ac.out,HW.out⟩
         simp [intOf];omega
        subst ba
        have HX:=h! hx
        have cy:=h! ax
        have co:decide ((m1:Int) < 0)=false:=by simp
        clear hx ax
        go_wp2_with fail
        refine (aBH (cm.out w7 I2 HW.out BT.out ac.out) dh.out (by rw [<-ad.out];exact cx) af.out.tree cy.out ay.out).mono ?_
        rintro e w8 ⟨m2,rfl,bk,aq,al⟩
        have cc:=h! bk
        have cq:=h! aq
        have ct:=h! (BT.out.later al)
        have cj:=h! (ac.out.later al)
        have cn:=h! (HW.out.trans (al.mono HW.out.size))
        clear bk aq al
        go_wp2
        go_roundw
        case rel=>exact ⟨q+1,m2,hltq,by go_num,rfl,by rw [be.out];exact NowI.more HX.out bo.out ay.out cc.out cq.out,ct.out,cj.out,cn.out⟩
        simp [intOf];omega
      rw [if_neg hpO] at ca
      have eo:Hid (Way (toB f) (-1) p -> ¬ Proc I2 p):=h! (fun h=>absurd ((bf.out p).2 h) hpO)
      clear hpO
      go_wp2
      go_roundw
      case rel=>exact ⟨q+1,x,hltq,by go_num,rfl,by rw [be.out];exact ah.out.skip eo.out,BT.out,ac.out,HW.out⟩
      simp [intOf];omega
     have ea:q=pl:=by omega
     have bw:Hid (Run (toB f) (fun b=>O.idxOf b) I2 k (O.idxOf b)):=h! (by rw [bp.out];exact af.out)
     obtain ⟨m0,ez,ck⟩ : ∃ m:Nat,x=m/\lK (toB f) I2 b m:=by
      have h9:=ah.out
      rw [ea,aH (by have:=az.out;omega),fg.out] at h9
      refine h9.done (fun p hp=>by rw [<-ad.out];exact ci.out p hp) ?_
      obtain ⟨p0,p1,p2,p3⟩:=aj.out.ahead bv.out cw.out
      exact ⟨p0,p1,p2,bw.out.proc p1 (.inl p3)⟩
     subst ez
     have dp:=h! ck
     have dm:=h! (bw.out.step aj.out bv.out cw.out ck)
     clear ck ea
     by_cases hsame:I2 b=some m0
     ·have es:=bd b m0 (lZ an hsame)
      have aq:((m0:Int) != (m0:Int))=false:=by simp
      have cF:=h! hsame
      clear bd br hsame
      go_wp2
      go_roundw
      case rel =>
       refine ⟨i+1,I2,chg,hlt,by go_num,rfl, ?_,fun hc b2 hb2 hb20 hl2 => ?_,bn.out,BT.out,ac.out,HW.out⟩
       ·have h9:=dm.out
        rw [zN cF.out,bp.out] at h9
        exact h9
       by_cases e:O.idxOf b2 < i+1
       ·exact bc.out hc b2 hb2 hb20 e
       have e2:b2=b:=aj.out.inj hb2 bv.out (by show O.idxOf b2=O.idxOf b;rw [bp.out];omega)
       subst e2
       exact ⟨m0,cF.out,dp.out⟩
      simp [intOf];omega
     obtain ⟨y,hy⟩ : ∃ y,(encI nb I2)[b]? = some y:=⟨_,mP an⟩
     have es:=bd b y hy
     have hfb:=br b
     have aq:((m0:Int) != y)=true:=by
      rw [mP an] at hy
      cases hIb:I2 b with
      | none=>rw [hIb] at hy;cases hy;simp
      | some r =>
       rw [hIb] at hy;cases hy
       have:r ≠ m0:=fun e=>hsame (by rw [hIb,e])
       simp;omega
     have fL:Hid (k <= K):=h! (by
      rcases dQ K k with h | h
      ·exact absurd (bw.out.same aj.out (fun {v} hv=>by have:=ci.out v hv;rw [ad.out] at this;exact this) HK.out h bv.out cw.out dp.out) hsame
      exact h)
     clear bd br hsame hy
     go_wp2
     go_roundw
     case rel =>
      refine ⟨i+1,upd' I2 b m0,true,hlt,by go_num,rfl, ?_,(fun h=>by cases h),fun _=>fL.out,BT.out.other _ (by have:=di.out;simp only;omega), ?_,HW.out.setCell (p:=⟨lg,b,none⟩) (by have:=di.out;simp only;omega) _⟩
      ·have h9:=dm.out
       rw [bp.out] at h9
       exact h9
      rw [<-aDF an]
      exact ac.out.set (by rw [nO];exact an)
     simp [intOf];omega
   have fa:i=m:=by omega
   have fd:Hid (Run (toB f) (fun b=>O.idxOf b) I2 (k+1) 1):=h! (af.out.next aj.out (fun v hv=>by
    have h9:=bM ((bf.out v).2 hv)
    have:=HM.out
    show O.idxOf v < i+1
    omega))
   have fx:Hid (chg=false -> 0 < k+1 /\ ∀ b:Nat,Way (toB f) (-1) b -> b ≠ 0 -> ∃ m,I2 b=some m/\lK (toB f) I2 b m):=h! (fun hc=>⟨Nat.succ_pos _,fun b hb hb0=>bc.out hc b hb hb0 (by
    have h9:=bM ((bf.out b).2 hb)
    have:=HM.out
    omega)⟩)
   clear fa
   go_wp2
   go_roundg (gk - 1)
   case measure=>omega
   exact ⟨k+1,I2,chg,rfl,fd.out,fx.out,(fun hc=>by have:=bn.out hc;omega),by have:=fq.out;omega,BT.out,ac.out,HW.out⟩
end
end Go.Proofs.YtagabiidbbhhmaaGreat
