/- Part 26. -/
import Derived.Test.YtagabiidbbhhmaaGreatEU24
import Derived.Test.YtagabiidbbhhmaaGreatEU25
namespace Go.Proofs.YtagabiidbbhhmaaGreat
set_option maxHeartbeats 25600000
set_option linter.all false
section
open Go.RowKit
theorem fT.placed {f:FuncD} {O:List Nat} (h:fT f O):Placed (toB f) (fun b=>O.idxOf b):=by
 obtain ⟨h1,h2,h3,h4,h5⟩:=h.facts
 have aa:∀ {b:Nat},Way (toB f) (-1) b -> O[O.idxOf b]? = some b:=fun {b} hb=>by
  have hm:=(h2 b).2 hb
  have hl:=dC hm
  rw [aB hl,List.getElem_idxOf hl]
 refine ⟨oA h1 h4,fun {a b} ha hb e => ?_,fun {b} hb hb0 => ?_⟩
 ·have e1:=aa ha
  have e2:=aa hb
  have e:O.idxOf a=O.idxOf b:=e
  rw [e,e2] at e1
  cases e1;rfl
 obtain ⟨j,p,hj,hp,ab⟩:=h5 _ b (aa hb) hb0
 exact ⟨p,(h2 p).1 (aG hp),ab,by show O.idxOf p < O.idxOf b;rw [oA h1 hp];exact hj⟩
def encI (n:Nat) (I:Nat -> Option Nat):List Int:=(List.range n).map fun b=>match I b with | none => -1 | some p=>(p:Int)
theorem mX (n:Nat) (I:Nat -> Option Nat):(encI n I).length=n:=by simp [encI]
theorem mH {n b:Nat} {I:Nat -> Option Nat} (h:b < n):(encI n I)[b]? = some (match I b with | none => -1 | some p=>(p:Int)):=by simp [encI,h]
theorem lO {n b p:Nat} {I:Nat -> Option Nat} (h:b < n) (hp:I b=some p):(encI n I)[b]? = some (p:Int):=by rw [mH h,hp]
theorem aAX {n b:Nat} {I:Nat -> Option Nat} (h:b < n) (hp:I b=none):(encI n I)[b]? = some (-1):=by rw [mH h,hp]
theorem aCQ {n b m:Nat} {I:Nat -> Option Nat} (h:b < n):(encI n I).set b (m:Int)=encI n (upd' I b m):=by
 apply bG
 intro t
 rw [cA,mX]
 by_cases ht:t < n
 ·rw [mH ht,mH ht]
  by_cases e:b=t
  ·subst e;rw [if_pos rfl,if_pos h,nU]
  rw [if_neg e,mW I m (Ne.symm e)]
 rw [aT (by rw [mX];omega),aT (by rw [mX];omega)]
 split <;> simp_all
theorem xO (n:Nat):encI n (fun _=>none)=List.replicate n (-1):=by
 apply bG
 intro t
 by_cases ht:t < n
 ·rw [mH ht];simp [ht]
 rw [aT (by rw [mX];omega),aT (by simp;omega)]
theorem lP {n b:Nat} {O:List Nat} (h:b < n):(iC n O O.length)[b]? = some (if b ∈ O then ((O.idxOf b:Nat):Int) else -1):=by
 unfold iC;rw [cV];simp [h]
theorem oW {n b:Nat} {O:List Nat} (h:b < n) (hb:b ∈ O):(iC n O O.length)[b]? = some ((O.idxOf b:Nat):Int):=by rw [lP h,if_pos hb]
theorem rZ {n b:Nat} {O:List Nat} (h:b < n) (hb:b ∉ O):(iC n O O.length)[b]? = some (-1):=by rw [lP h,if_neg hb]
structure TreeM (f:FuncD) (W:World) (bt bg lg lcap:Nat) (g:Array Value) (pv ov lv:Value) (O:List Nat) (I:Nat -> Option Nat):Prop where
 tree:Box W bt #[.pointer (some ⟨bg,0,none⟩),.slice (some ⟨lg,0,none⟩) f.blocks.length lcap]
 graph:Box W bg (g ++ #[pv,ov,lv])
 gsize:g.size=4
 idom:Cells W (.slice (some ⟨lg,0,none⟩) f.blocks.length lcap) lg (encI f.blocks.length I)
 preds:mB W pv (gT f)
 order:Ints W ov (natI O)
 place:Ints W lv (iC f.blocks.length O O.length)
theorem TreeM.later {f:FuncD} {W W' : World} {bt bg lg lcap:Nat} {g:Array Value} {pv ov lv:Value} {O:List Nat} {I:Nat -> Option Nat} (h:TreeM f W bt bg lg lcap g pv ov lv O I) (hb:Below W.heap.size W W'):TreeM f W' bt bg lg lcap g pv ov lv O I :=
 ⟨h.tree.later hb,h.graph.later hb,h.gsize,h.idom.later hb,h.preds.below hb,h.order.below hb,h.place.below hb⟩
theorem aFQ (g:Array Value) (pv ov lv:Value) (h:g.size=4):(g ++ #[pv,ov,lv])[4]? = some pv/\(g ++ #[pv,ov,lv])[5]? = some ov/\(g ++ #[pv,ov,lv])[6]? = some lv:=by
 refine ⟨?_, ?_, ?_⟩ <;> rw [Array.getElem?_append_right (by omega),h] <;> rfl
theorem TreeM.cells {f:FuncD} {W:World} {bt bg lg lcap:Nat} {g:Array Value} {pv ov lv:Value} {O:List Nat} {I:Nat -> Option Nat} (h:TreeM f W bt bg lg lcap g pv ov lv O I) :
  W.cell? ⟨bt,0,none⟩=some (.pointer (some ⟨bg,0,none⟩))/\W.cell? ⟨bt,1,none⟩=some (.slice (some ⟨lg,0,none⟩) f.blocks.length lcap)/\W.cell? ⟨bg,4,none⟩=some pv/\W.cell? ⟨bg,5,none⟩=some ov/\W.cell? ⟨bg,6,none⟩=some lv:=by
 obtain ⟨e4,e5,e6⟩:=aFQ g pv ov lv h.gsize
 exact ⟨h.tree.at 0 rfl,h.tree.at 1 rfl,h.graph.at 4 e4,h.graph.at 5 e5,h.graph.at 6 e6⟩
theorem aAY {W:World} {f:FuncD} {bt bg lg lcap:Nat} {g:Array Value} {pv ov lv:Value} {O:List Nat} {I:Nat -> Option Nat} (hT:TreeM f W bt bg lg lcap g pv ov lv O I) (hO:fT f O) (h512:f.blocks.length <= 512) (hI:Tree (toB f) (fun b=>O.idxOf b) I)
  {x y:Nat} (hx:Proc I x) (hy:Proc I y) :
  Calls Tryz.prog 178 #[.pointer (some ⟨bt,0,none⟩),.int .i64 x,.int .i64 y] W fun e w' => ∃ m:Nat,e = .returned (.int .i64 m)/\Proc I m/\(∀ c,Anc I c m ↔ (Anc I c x/\Anc I c y))/\Below W.heap.size W w':=by
 obtain ⟨bx,aw, -, -,ao⟩:=hT.cells
 obtain ⟨pa,pc,pb,po,bp,bo,hpm,ak,bv⟩:=hT.place.parts
 rw [fR] at bp bo ak
 subst bp
 obtain ⟨lc2, -, -, -,ax,cb⟩:=hT.idom.form
 obtain ⟨h1,h2,h3,h4,h5⟩:=hO.facts
 have hP:=hO.placed
 obtain ⟨nb,bf⟩ : ∃ nb,nb=f.blocks.length:=⟨_,rfl⟩
 rw [<-bf] at aw bo ak ax h512 h3 ao
 have bO:0 < nb:=by have:=h3 0 (aG h4);omega
 obtain ⟨rfl,bn⟩:=ak bO
 have ac:=hT.idom.lt
 have ae:=hT.tree.lt
 have ay:=hT.graph.lt
 have bz:=h! bx
 have ca:=h! aw
 have cc:=h! ao
 have br:=h! bv
 have bs:=h! ax
 have aj:=h! hI
 have bc:=h! hP
 have ai:=h! h2
 have bm:=h! h3
 have HX:=h! hx
 have HY:=h! hy
 have al:=h! bf
 have HW:=h! (Below.refl W.heap.size W)
 clear hT bx aw ao bv ax cb h1 h2 h3 h4 h5 hP hI hO hx hy bf ak
 go_enter Tryz.func178,Tryz.ntmps178
 go_wp2_with fail
 go_loopw [1,2] (fun u v wr => ∃ a b:Nat,u = .int .i64 a/\v = .int .i64 b/\Proc I a/\Proc I b/\(∀ c,(Anc I c a/\Anc I c b) ↔ (Anc I c x/\Anc I c y))/\Below W.heap.size W wr) (fun u v _=>O.idxOf (intOf u).toNat+O.idxOf (intOf v).toNat)
 case atStart=>exact ⟨x,y,rfl,rfl,HX.out,HY.out,fun _=>Iff.rfl,HW.out⟩
 case round =>
  obtain ⟨a,b,rfl,rfl,ha,hb,bk,hW⟩:=hrel
  have ar:=aj.out.proc_way ha
  have az:=aj.out.proc_way hb
  have bh:=bm.out a ((ai.out a).2 ar)
  have bi:=bm.out b ((ai.out b).2 az)
  have HA:=h! ha
  have HB:=h! hb
  have ap:=h! bk
  have bq:=h! ar
  have bl:=h! az
  replace HW:=h! hW
  clear ha hb bk ar az hW
  by_cases hne:a=b
  ·have hq:((a:Int) != (b:Int))=false:=by simp [hne]
   have aq:=h! hne
   clear hne
   go_wp2
   go_ret
   refine ⟨a,rfl,HA.out,fun c => ?_,HW.out⟩
   rw [<-ap.out c, <-aq.out]
   exact ⟨fun h=>⟨h,h⟩,fun h=>h.1⟩
  have hq:((a:Int) != (b:Int))=true:=by simp;omega
  have aq:=h! hne
  have d0:=(HW.out.cell (p:=⟨bt,0,none⟩) ae).trans bz.out
  have d1:=(HW.out.cell (p:=⟨bt,1,none⟩) ae).trans ca.out
  have d6:=(HW.out.cell (p:=⟨bg,6,none⟩) ay).trans cc.out
  have af:(iC f.blocks.length O O.length).getD a 0=((O.idxOf a:Nat):Int):=by rw [aN,oW (by rw [<-al.out];exact bh) ((ai.out a).2 bq.out)];rfl
  have ab:(iC f.blocks.length O O.length).getD b 0=((O.idxOf b:Nat):Int):=by rw [aN,oW (by rw [<-al.out];exact bi) ((ai.out b).2 bl.out)];rfl
  have da:=(HW.out.cell (p:=⟨pb,po+a,none⟩) bn).trans (br.out a (by rw [fR, <-al.out];exact bh))
  have db:=(HW.out.cell (p:=⟨pb,po+b,none⟩) bn).trans (br.out b (by rw [fR, <-al.out];exact bi))
  rw [af] at da
  rw [ab] at db
  have bw:Hid (∃ pa:Nat,pa=O.idxOf a):=h! ⟨_,rfl⟩
  obtain ⟨ia,am⟩:=bw.out
  obtain ⟨ib,ba⟩ : ∃ ib,ib=O.idxOf b:=⟨_,rfl⟩
  rw [<-am] at da
  rw [<-ba] at db
  have bb:=h! am
  have bj:=h! ba
  clear hne af ab am ba bw
  by_cases hlt:ib < ia
  ·have hg:decide ((ib:Int) < (ia:Int))=true:=by simp;exact hlt
   obtain ⟨p,hp,ag,ad,aa⟩:=aj.out.meets bc.out.zero HA.out (y:=b) (by show O.idxOf b < O.idxOf a;rw [<-bb.out, <-bj.out];exact hlt)
   have dp:=(HW.out.cell (p:=⟨lg,a,none⟩) ac).trans (bs.out a p (lO bh hp))
   have bd:=h! ag
   have an:=h! ad
   have be:=h! aa
   clear hp ag ad aa
   go_upto_region 2 with (fail)
   go_quiet (fail)
   go_wp2
   go_roundw
   case rel=>exact ⟨p,b,rfl,rfl,bd.out,HB.out,fun c=>(be.out c).trans (ap.out c),eT HW.out _⟩
   have h9:=an.out
   simp only [intOf,Int.toNat_natCast] at h9 ⊢
   omega
  have hg:decide ((ib:Int) < (ia:Int))=false:=by simp;omega
  have ah:O.idxOf a < O.idxOf b:=by
   rw [<-bb.out, <-bj.out]
   rcases dM ia ib with h | h
   ·exact h
   exact absurd (bc.out.inj bq.out bl.out (by show O.idxOf a=O.idxOf b;rw [<-bb.out, <-bj.out];omega)) aq.out
  obtain ⟨p,hp,ag,ad,aa⟩:=aj.out.meets bc.out.zero HB.out (y:=a) ah
  have dp:=(HW.out.cell (p:=⟨lg,b,none⟩) ac).trans (bs.out b p (lO bi hp))
  have bd:=h! ag
  have an:=h! ad
  have be:=h! aa
  clear hp ag ad aa ah
  go_upto_region 2 with (fail)
  go_quiet (fail)
  go_wp2
  go_roundw
  case rel=>exact ⟨a,p,rfl,rfl,HA.out,bd.out,fun c=>(and_comm.trans ((be.out c).trans and_comm)).trans (ap.out c),eT HW.out _⟩
  have h9:=an.out
  simp only [intOf,Int.toNat_natCast] at h9 ⊢
  omega
end
section
open Go.RowKit
structure DomI (f:FuncD) (O:List Nat) (I:Nat -> Option Nat):Prop where
 tree:Tree (toB f) (fun b=>O.idxOf b) I
 proc:∀ {v:Nat},Way (toB f) (-1) v -> Proc I v
 anc:∀ {c v:Nat},Way (toB f) (-1) v -> (Anc I c v ↔ ¬ Way (toB f) (c:Int) v)
def NowI (f:FuncD) (I:Nat -> Option Nat) (l:List Nat) (x:Int):Prop :=
 (x = -1 /\ ∀ p ∈ l,Way (toB f) (-1) p -> ¬ Proc I p) \/ ∃ m:Nat,x=m/\Proc I m /\ ∀ c,Anc I c m ↔ ∀ p ∈ l,Way (toB f) (-1) p -> Proc I p -> Anc I c p
theorem NowI.skip {f:FuncD} {I:Nat -> Option Nat} {l:List Nat} {x:Int} {p:Nat} (h:NowI f I l x) (hp:Way (toB f) (-1) p -> ¬ Proc I p):NowI f I (l ++ [p]) x:=by
 rcases h with ⟨rfl,h⟩ | ⟨m,rfl,h1,h2⟩
 ·exact .inl ⟨rfl,fun q hq=>by rcases aL.1 hq with hq | hq;exact h q hq;simp at hq;subst hq;exact hp⟩
 refine .inr ⟨m,rfl,h1,fun c=>(h2 c).trans ⟨fun h q hq => ?_,fun h q hq=>h q (aL.2 (.inl hq))⟩⟩
 rcases aL.1 hq with hq | hq
 ·exact h q hq
 simp at hq;subst hq
 exact fun h3 h4=>absurd h4 (hp h3)
theorem NowI.first {f:FuncD} {I:Nat -> Option Nat} {l:List Nat} {p:Nat} (h:∀ q ∈ l,Way (toB f) (-1) q -> ¬ Proc I q) (hw:Way (toB f) (-1) p) (hp:Proc I p):NowI f I (l ++ [p]) p:=by
 refine .inr ⟨p,rfl,hp,fun c=>⟨fun hc q hq h3 h4 => ?_,fun h=>h p (aL.2 (.inr (by simp))) hw hp⟩⟩
 rcases aL.1 hq with hq | hq
 ·exact absurd h4 (h q hq h3)
 simp at hq;subst hq;exact hc
theorem NowI.more {f:FuncD} {I:Nat -> Option Nat} {l:List Nat} {m m' p:Nat} (h:∀ c,Anc I c m ↔ ∀ q ∈ l,Way (toB f) (-1) q -> Proc I q -> Anc I c q) (hw:Way (toB f) (-1) p) (hp:Proc I p) (hm:Proc I m')
  (hmm:∀ c,Anc I c m' ↔ (Anc I c m/\Anc I c p)):NowI f I (l ++ [p]) m':=by
 refine .inr ⟨m',rfl,hm,fun c=>(hmm c).trans ⟨fun ⟨h1,h2⟩ q hq h3 h4 => ?_,fun h1=>⟨(h c).2 fun q hq=>h1 q (aL.2 (.inl hq)),h1 p (aL.2 (.inr (by simp))) hw hp⟩⟩⟩
 rcases aL.1 hq with hq | hq
 ·exact (h c).1 h1 q hq h3 h4
 ·simp at hq;subst hq;exact h2
theorem NowI.done {f:FuncD} {I:Nat -> Option Nat} {b:Nat} {x:Int} (h:NowI f I (fX f f.blocks.length 0 b) x) (hlow:∀ p,Way (toB f) (-1) p -> p < f.blocks.length) (hex:∃ p,Way (toB f) (-1) p/\b ∈ toB f p/\Proc I p):∃ m:Nat,x=m/\lN (toB f) I b m:=by
 have aa:∀ p,Way (toB f) (-1) p -> (p ∈ fX f f.blocks.length 0 b ↔ b ∈ toB f p):=fun p hp=>by
  rw [iK,List.mem_filter]
  constructor
  ·intro h;simpa using h.2
  intro h;exact ⟨List.mem_range.2 (hlow p hp),by simpa using h⟩
 rcases h with ⟨rfl,h⟩ | ⟨m,rfl,h1,h2⟩
 ·obtain ⟨p,p1,p2,p3⟩:=hex
  exact absurd p3 (h p ((aa p p1).2 p2) p1)
 exact ⟨m,rfl,h1,fun c=>(h2 c).trans ⟨fun h p hp hw hpp=>h p ((aa p hw).2 hp) hw hpp,fun h p hp hw hpp=>h p ((aa p hw).1 hp) hw hpp⟩⟩
def aEG (f:FuncD) (v:Value) (bg:Nat) (O:List Nat) (w:World) (e:Ending) (w' : World):Prop :=
 ∃ (bt lg lcap:Nat) (g:Array Value) (pv ov lv:Value) (I:Nat -> Option Nat),e = .returned (.pointer (some ⟨bt,0,none⟩))/\v = .agg g/\TreeM f w' bt bg lg lcap g pv ov lv O I/\DomI f O I/\Below w.heap.size w w'
set_option maxRecDepth 100000 in
theorem aFR {w w0:World} {v:Value} {f:FuncD} {bg:Nat} {O:List Nat} (hv:fP w v f) (hG:mQ f v w0 w bg O) (hO:fT f O) (hf:gW f=true) :
  Calls Tryz.prog 135 #[.pointer (some ⟨bg,0,none⟩)] w (aEG f v bg O w):=by
 obtain ⟨ej,bw⟩:=gG hf
 obtain ⟨ap,cp,ab,cb,dj, -, -, -, -⟩:=hv.form
 obtain ⟨a0,a1,a2,a3,pv,ov,lv,e1,hB,hbg0,hP,hL,hI⟩:=hG
 rw [dj] at e1
 injection e1 with e1
 injection e1 with e1
 injection e1 with e10 e1
 injection e1 with e11 e1
 injection e1 with e12 e1
 injection e1 with e13 e1
 subst e10 e11 e12 e13
 subst dj
 obtain ⟨h1,h2,h3,h4,h5⟩:=hO.facts
 have cz:=hO.placed
 have dy:=hO.le
 obtain ⟨oa,oc,ob,oo,cw,bo,hom,bp,dp⟩:=hL.parts
 obtain ⟨vs,pa,pc,pb,po,dn,dm,hpm,db,ce,dv,dh⟩:=hP.parts
 obtain ⟨la,lc,lb,lo,bk,dl,hlm,cs,cM⟩:=hI.parts
 rw [fE] at cw bo bp
 have aq:(gT f).length=f.blocks.length:=by unfold gT;rw [iF]
 rw [aq] at dn dm ce db
 rw [fR] at bk dl cs
 obtain ⟨K,hK⟩:=aCN (toB f) (fun b=>O.idxOf b) f.blocks.length
 obtain ⟨m,hm⟩ : ∃ m,m=O.length:=⟨_,rfl⟩
 have aw:1 <= m:=by rw [hm];have:=(aD.1 h4).1;omega
 have fl:m <= f.blocks.length:=by rw [hm];exact dy
 rw [<-hm] at cw bo bp
 obtain ⟨rfl,et⟩:=bp (by omega)
 obtain ⟨rfl,ew⟩:=ce (by omega)
 obtain ⟨rfl,ex⟩:=cs (by omega)
 have ft:=h! hP
 have fg:=h! hL
 have fy:=h! hI
 have fo:=h! hB
 subst cw dn bk
 have ak:=hB.at 3 rfl
 have bb:=hB.at 4 rfl
 have bi:=hB.at 5 rfl
 have bc:=hB.at 6 rfl
 have ay:=hB.lt
 obtain ⟨nb,co⟩ : ∃ nb,nb=f.blocks.length:=⟨_,rfl⟩
 have ef:=h! h1
 have bd:=h! h2
 have es:=h! h3
 have HH4:=h! h4
 have am:=h! cz
 obtain ⟨m,rfl⟩ : ∃ m',m=m' + 1:=⟨m - 1,by omega⟩
 have HM:=h! hm
 have fp:=h! bo
 have fv:=h! dp
 have fi:=h! dv
 have fL:=h! dh
 have eg:=h! cM
 have HK:=h! hK
 have ea:=h! hO
 have dw:=h! aq
 rw [<-co] at ak bb bc dm db dl ej bw fl
 have ad:=h! co
 have fc:=h! ak
 have fw:=h! bb
 have ep:=h! bi
 have fF:=h! bc
 have hn0:(0:Int) <= (nb:Int):=by omega
 clear h1 h2 h3 h4 h5 cz dy hm bo aw dp dv dh cM hK hO aq hP hL hI hB bp ce cs hv hf co ak bb bi bc
 have ak:=fc.out
 go_enter Tryz.func135,Tryz.ntmps135
 go_wp2_with fail
 have df:=(Below.refl w.heap.size w).alloc (aC _) (.cells #[.int .i64 (-1)] 3)
 refine (oJ (x := -1) (n:=nb) (oO (Box.new w _ _) ⟨by decide,by decide⟩) (by omega)).mono ?_
 rintro e w2 ⟨u,rfl,hu,hb2⟩
 obtain ⟨lg,ae,dg⟩:=hu.cells (by simp;omega)
 obtain ⟨aa,de, -, -, -, -⟩:=ae.form
 rw [aQ] at de
 subst de
 have HW:Hid (Below w.heap.size w w2):=h! (df.trans (hb2.mono (by simp)))
 have ac:Hid (Cells w2 (.slice (some ⟨lg,0,none⟩) nb aa) lg (encI nb fun _=>none)):=h! (by rw [xO];exact ae)
 have dc:Hid (w.heap.size < lg):=h! (by have:=dg;simp at this;omega)
 clear df hu hb2 ae dg
 go_upto_region 2 with (fail)
 have hl2:=ac.out.lt
 have ff:=HW.out.size
 have ci:=(Below.refl w2.heap.size w2).alloc (aC _) (.cells #[.pointer (some ⟨bg,0,none⟩),.slice (some ⟨lg,0,none⟩) nb aa] 153)
 replace ac:=h! (ac.out.later ci)
 replace HW:=h! (HW.out.trans (ci.mono HW.out.size))
 clear ci
 have BT:=h! (Box.new w2 #[.pointer (some ⟨bg,0,none⟩),.slice (some ⟨lg,0,none⟩) nb aa] 153)
 generalize w2.alloc (.cells #[.pointer (some ⟨bg,0,none⟩),.slice (some ⟨lg,0,none⟩) nb aa] 153)=w3 at *
 obtain ⟨fs,ev,fk⟩:=BT.out
 clear fs ev fk
 obtain ⟨bt,af⟩ : ∃ bt,bt=w2.heap.size:=⟨_,rfl⟩
 rw [<-af] at BT
 have dx:Hid (lg < bt/\w.heap.size < bt/\w.heap.size < lg):=h! (by have:=dc.out;omega)
 simp only [<-af]
 clear af hl2 ff dc
 have cn:Hid (∀ (wr:World) (I:Nat -> Option Nat),Below w.heap.size w wr -> Box wr bt #[.pointer (some ⟨bg,0,none⟩),.slice (some ⟨lg,0,none⟩) nb aa] -> Cells wr (.slice (some ⟨lg,0,none⟩) nb aa) lg (encI nb I) ->
   TreeM f wr bt bg lg aa #[.slice ap f.params.length cp,.int .i64 f.arrays,.int .i64 f.cells,.slice ab nb cb] (.slice (some ⟨pb,po,none⟩) nb pc) (.slice (some ⟨ob,oo,none⟩) (m+1) oc) (.slice (some ⟨lb,lo,none⟩) nb lc) O I):=h! (fun wr I h1 h2 h3=>by
  have hP:=ft.out.below h1
  have hL:=fg.out.below h1
  have hI:=fy.out.below h1
  have hB:=fo.out.later h1
  rw [<-ad.out] at hP hI hB
  exact ⟨by rw [<-ad.out];exact h2,hB,rfl,by rw [<-ad.out];exact h3,hP,hL,by rw [<-ad.out];exact hI⟩)
 have cf:Hid (∀ v:Nat,Way (toB f) (-1) v -> v < nb):=h! (fun v hv=>by rw [ad.out];exact es.out v ((bd.out v).2 hv))
 have ag:Hid (Run (toB f) (fun b=>O.idxOf b) (fun _=>none) 0 1):=h! (Run.start am.out)
 go_wp2_with fail
 go_loopg [4] (K+3) (fun fuel cv wr => ∃ (k:Nat) (I:Nat -> Option Nat) (chg:Bool),cv = .bool chg/\Run (toB f) (fun b=>O.idxOf b) I k 1/\(chg=false -> 0 < k /\ ∀ b:Nat,Way (toB f) (-1) b -> b ≠ 0 -> ∃ m,I b=some m/\lN (toB f) I b m)/\(chg=true -> k <= K+1)/\k+fuel=K+3 /\
  Box wr bt #[.pointer (some ⟨bg,0,none⟩),.slice (some ⟨lg,0,none⟩) nb aa]/\Cells wr (.slice (some ⟨lg,0,none⟩) nb aa) lg (encI nb I)/\Below w.heap.size w wr)
 case atStart=>exact ⟨0,_,true,rfl,ag.out,(fun h=>by cases h),(fun _=>by omega),by omega,BT.out,ac.out,HW.out⟩
 case round =>
  obtain ⟨k,I,chg,rfl,hR,hF,hT,hk,af,ae,hW⟩:=hrel
  replace ag:=h! hR
  have ar:=h! hF
  have bj:=h! hT
  replace BT:=h! af
  replace ac:=h! ae
  replace HW:=h! hW
  clear hR hF hT af ae hW
  generalize wr=w4 at *
  cases chg
  ·have en:Hid (DomI f O I):=h! ⟨ag.out.tree,fun hv=>ag.out.proc hv (.inr (ar.out rfl).1),fun hv=>ag.out.fixed (fun hv=>ag.out.proc hv (.inr (ar.out rfl).1)) (fun {b}=>(ar.out rfl).2 b) hv⟩
   have ey:=h! (cn.out w4 I HW.out BT.out ac.out)
   go_wp2
   go_ret
   exact ⟨bt,lg,aa,_,_,_,_,I,rfl,by rw [ad.out],ey.out,en.out,HW.out⟩
  have dt:=bj.out rfl
  have fx:=h! dt
  clear dt ar bj
  have ed:=h! hk
  have hfuel:0 < gk:=by have:=fx.out;omega
  clear hk
  have d5:=(HW.out.cell (p:=⟨bg,5,none⟩) ay).trans ep.out
  rcases Decidable.em (oc=1) with bn | bn
  all_goals
   try subst bn
   go_wp2_with fail
   clear d5
   go_loopw [4,28] (fun cv iv wr => ∃ (i:Nat) (I:Nat -> Option Nat) (chg:Bool),i <= m/\iv = .int .i64 i/\cv = .bool chg/\Run (toB f) (fun b=>O.idxOf b) I k (i+1)/\(chg=false -> ∀ b:Nat,Way (toB f) (-1) b -> b ≠ 0 -> O.idxOf b < i+1 -> ∃ m,I b=some m/\lN (toB f) I b m)/\(chg=true -> k <= K) /\
    Box wr bt #[.pointer (some ⟨bg,0,none⟩),.slice (some ⟨lg,0,none⟩) nb aa]/\Cells wr (.slice (some ⟨lg,0,none⟩) nb aa) lg (encI nb I)/\Below w.heap.size w wr) (fun _ iv _=>m - (intOf iv).toNat)
   case atStart=>exact ⟨0,I,false,aH _,rfl,rfl,ag.out,(fun _ b hb hb0 hl=>absurd (am.out.inj hb (.zero (by decide)) (by rw [am.out.zero];exact Nat.lt_one_iff.1 hl)) hb0),(fun h=>by cases h),BT.out,ac.out,HW.out⟩
   obtain ⟨i,I2,chg,hi,rfl,rfl,hR,hF,hT,af,ae,hW⟩:=hrel
   replace ag:=h! hR
   have ar:=h! hF
   have bj:=h! hT
   replace BT:=h! af
   replace ac:=h! ae
   replace HW:=h! hW
   clear hR hF hT af ae hW
   generalize wr=w5 at *
   by_cases hlt:i < m
   ·try (exfalso;have:=fp.out;omega)
    all_goals
     obtain ⟨b,hb⟩ : ∃ b,O[i+1]? = some b:=⟨_,aB (by have:=HM.out;omega)⟩
     have ck:=aG hb
     have bz:=(bd.out b).1 ck
     have an:=cf.out b bz
     have cx:=oA ef.out hb
     have hb0:b ≠ 0:=fun e=>by rw [e,am.out.zero] at cx;omega
     have HBM:=h! ck
     have bq:=h! bz
     have bs:=h! cx
     have cq:=h! hb0
     have dr:=(HW.out.cell (p:=⟨ob,oo+(i+1),none⟩) et).trans (fv.out (i+1) (by rw [fE, <-HM.out];omega))
     rw [show (natI O).getD (i+1) 0=(b:Int) by unfold natI;rw [aN,aO,hb];rfl,show oo+(i+1)=oo+1+i by omega] at dr
     have d4:=(HW.out.cell (p:=⟨bg,4,none⟩) ay).trans fw.out
     obtain ⟨ps,bm⟩ : ∃ ps,ps=fX f f.blocks.length 0 b:=⟨_,rfl⟩
     have eh:=h! bm
     have dd:(gT f).getD b []=natI ps:=by
      rw [bm,aN]
      unfold gT
      rw [jX (by rw [<-ad.out];exact an)]
      rfl
     have di:∀ p ∈ ps,p < nb:=fun p hp=>by
      rw [bm,iK] at hp
      rw [ad.out]
      exact cT.1 (List.mem_filter.1 hp).1
     have cd:=(HW.out.cell (p:=⟨pb,po+b,none⟩) ew).trans (fi.out b (by rw [dw.out, <-ad.out];exact an))
     have dz:Ints w (vs.getD b undef) (natI ps):=by
      have h9:=fL.out b (by rw [dw.out, <-ad.out];exact an)
      rwa [dd] at h9
     have fd:ps.length <= nb+1:=by rw [bm,ad.out];exact nZ f f.blocks.length 0 b
     obtain ⟨qa,qc,qb,qo,eb,cL,hqm,ct,da⟩:=dz.parts
     rw [eb] at cd
     obtain ⟨pl,ai⟩ : ∃ pl,pl=ps.length:=⟨_,rfl⟩
     rw [fE, <-ai] at cd cL ct
     rw [<-ai] at fd
     have ax:=h! ai
     have ez:=h! ct
     have fj:=h! da
     have bx:=h! di
     clear hb ck bz cx hb0 bm dd di dz eb ai ct da cL
     have eo:Hid (NowI f I2 (ps.take 0) (-1)):=h! (.inl ⟨rfl,by simp⟩)
     go_wp2_with fail
     clear dr d4 cd
     go_loopw [7,40] (fun nv qv wr => ∃ (q:Nat) (x:Int),q <= pl/\qv = .int .i64 q/\nv = .int .i64 x/\NowI f I2 (ps.take q) x /\
      Box wr bt #[.pointer (some ⟨bg,0,none⟩),.slice (some ⟨lg,0,none⟩) nb aa]/\Cells wr (.slice (some ⟨lg,0,none⟩) nb aa) lg (encI nb I2)/\Below w.heap.size w wr) (fun _ qv _=>pl - (intOf qv).toNat)
     case atStart=>exact ⟨0, -1,aH _,rfl,rfl,eo.out,BT.out,ac.out,HW.out⟩
     obtain ⟨q,x,hq,rfl,rfl,bh,af,ae,hW⟩:=hrel
     have ah:=h! bh
     replace BT:=h! af
     replace ac:=h! ae
     replace HW:=h! hW
     clear bh af ae hW
     generalize wr=w7 at *
     obtain ⟨lB,cB,fB⟩:=BT.out
     obtain ⟨lc2, -, -, -,bf,br⟩:=ac.out.form
     have dq:=h! bf
     by_cases hltq:q < pl
     ·obtain ⟨rfl,fh⟩:=ez.out (by omega)
      obtain ⟨p,hp⟩ : ∃ p,ps[q]? = some p:=⟨_,aB (by have:=ax.out;omega)⟩
      have aj:p < nb:=bx.out p (aG hp)
      have fG:=(HW.out.cell (p:=⟨qb,qo+q,none⟩) fh).trans (fj.out q (by rw [fE, <-ax.out];exact hltq))
      rw [show (natI ps).getD q 0=(p:Int) by unfold natI;rw [aN,aO,hp];rfl] at fG
      have be:Hid (ps.take (q+1)=ps.take q ++ [p]):=h! (eS _ _ _ hp)
      have d6:=(HW.out.cell (p:=⟨bg,6,none⟩) ay).trans fF.out
      have ch:=(HW.out.cell (p:=⟨lb,lo+p,none⟩) ex).trans (eg.out p (by rw [fR, <-ad.out];exact aj))
      rw [aN,lP (by rw [<-ad.out];exact aj),dI] at ch
      clear hp bf br
      by_cases hpO:p ∈ O
      ·have ds:=(bd.out p).1 hpO
       rw [if_pos hpO] at ch
       have bv:=h! ds
       have hneg:decide (((O.idxOf p:Nat):Int) < 0)=false:=by simp
       clear hpO ds
       by_cases hp0:p=0
       ·have fe:((p:Int) != 0)=false:=by simp [hp0]
        have ao:Hid (Proc I2 p):=h! (.inl hp0)
        clear hp0
        rcases ah.out with ⟨ba,hx⟩ | ⟨m1,ba,aw,hx⟩
        ·subst ba
         have HX:=h! hx
         clear hx
         go_wp2
         go_roundw
         case rel=>exact ⟨q+1,p,hltq,by go_num,rfl,by rw [be.out];exact NowI.first HX.out bv.out ao.out,BT.out,ac.out,HW.out⟩
         simp [intOf];omega
        subst ba
        have HX:=h! hx
        have cc:=h! aw
        have cy:decide ((m1:Int) < 0)=false:=by simp
        clear hx aw
        go_wp2_with fail
        refine (aAY (cn.out w7 I2 HW.out BT.out ac.out) ea.out (by rw [<-ad.out];exact bw) ag.out.tree cc.out ao.out).mono ?_
        rintro e w8 ⟨m2,rfl,bl,az,al⟩
        have cm:=h! bl
        have cr:=h! az
        have cl:=h! (BT.out.later al)
        have cg:=h! (ac.out.later al)
        have cj:=h! (HW.out.trans (al.mono HW.out.size))
        clear bl az al
        go_wp2
        go_roundw
        case rel=>exact ⟨q+1,m2,hltq,by go_num,rfl,by rw [be.out];exact NowI.more HX.out bv.out ao.out cm.out cr.out,cl.out,cg.out,cj.out⟩
        simp [intOf];omega
       have fe:((p:Int) != 0)=true:=by simpa using hp0
       cases hIp:I2 p with
       | none =>
        have fb:=dq.out p (-1) (aAX aj hIp)
        have fz:Hid (¬ Proc I2 p):=h! (fun h=>by
         rcases h with h | h
         ·exact hp0 h
         rw [hIp] at h;cases h)
        clear hp0 hIp
        go_wp2
        go_roundw
        case rel=>exact ⟨q+1,x,hltq,by go_num,rfl,by rw [be.out];exact ah.out.skip (fun _=>fz.out),BT.out,ac.out,HW.out⟩
        simp [intOf];omega
       | some r =>
        have fb:=dq.out p r (lO aj hIp)
        have ao:Hid (Proc I2 p):=h! (.inr (by rw [hIp];rfl))
        have hrn:decide ((r:Int) < 0)=false:=by simp
        clear hp0 hIp
        rcases ah.out with ⟨ba,hx⟩ | ⟨m1,ba,aw,hx⟩
        ·subst ba
         have HX:=h! hx
         clear hx
         go_wp2
         go_roundw
         case rel=>exact ⟨q+1,p,hltq,by go_num,rfl,by rw [be.out];exact NowI.first HX.out bv.out ao.out,BT.out,ac.out,HW.out⟩
         simp [intOf];omega
        subst ba
        have HX:=h! hx
        have cc:=h! aw
        have cy:decide ((m1:Int) < 0)=false:=by simp
        clear hx aw
        go_wp2_with fail
        refine (aAY (cn.out w7 I2 HW.out BT.out ac.out) ea.out (by rw [<-ad.out];exact bw) ag.out.tree cc.out ao.out).mono ?_
        rintro e w8 ⟨m2,rfl,bl,az,al⟩
        have cm:=h! bl
        have cr:=h! az
        have cl:=h! (BT.out.later al)
        have cg:=h! (ac.out.later al)
        have cj:=h! (HW.out.trans (al.mono HW.out.size))
        clear bl az al
        go_wp2
        go_roundw
        case rel=>exact ⟨q+1,m2,hltq,by go_num,rfl,by rw [be.out];exact NowI.more HX.out bv.out ao.out cm.out cr.out,cl.out,cg.out,cj.out⟩
        simp [intOf];omega
      rw [if_neg hpO] at ch
      have ek:Hid (Way (toB f) (-1) p -> ¬ Proc I2 p):=h! (fun h=>absurd ((bd.out p).2 h) hpO)
      clear hpO
      go_wp2
      go_roundw
      case rel=>exact ⟨q+1,x,hltq,by go_num,rfl,by rw [be.out];exact ah.out.skip ek.out,BT.out,ac.out,HW.out⟩
      simp [intOf];omega
     have ec:q=pl:=by omega
     have bO:Hid (Run (toB f) (fun b=>O.idxOf b) I2 k (O.idxOf b)):=h! (by rw [bs.out];exact ag.out)
     obtain ⟨m0,fa,ca⟩ : ∃ m:Nat,x=m/\lN (toB f) I2 b m:=by
      have h9:=ah.out
      rw [ec,aJ (by have:=ax.out;omega),eh.out] at h9
      refine h9.done (fun p hp=>by rw [<-ad.out];exact cf.out p hp) ?_
      obtain ⟨p0,p1,p2,p3⟩:=am.out.ahead bq.out cq.out
      exact ⟨p0,p1,p2,bO.out.proc p1 (.inl p3)⟩
     subst fa
     have dk:=h! ca
     have cF:=h! (bO.out.step am.out bq.out cq.out ca)
     clear ca ec
     by_cases hsame:I2 b=some m0
     ·have fq:=bf b m0 (lO an hsame)
      have az:((m0:Int) != (m0:Int))=false:=by simp
      have cG:=h! hsame
      clear bf br hsame
      go_wp2
      go_roundw
      case rel =>
       refine ⟨i+1,I2,chg,hlt,by go_num,rfl, ?_,fun hc b2 hb2 hb20 hl2 => ?_,bj.out,BT.out,ac.out,HW.out⟩
       ·have h9:=cF.out
        rw [aAW cG.out,bs.out] at h9
        exact h9
       by_cases e:O.idxOf b2 < i+1
       ·exact ar.out hc b2 hb2 hb20 e
       have e2:b2=b:=am.out.inj hb2 bq.out (by show O.idxOf b2=O.idxOf b;rw [bs.out];omega)
       subst e2
       exact ⟨m0,cG.out,dk.out⟩
      simp [intOf];omega
     obtain ⟨y,hy⟩ : ∃ y,(encI nb I2)[b]? = some y:=⟨_,mH an⟩
     have fq:=bf b y hy
     have hfb:=br b
     have az:((m0:Int) != y)=true:=by
      rw [mH an] at hy
      cases hIb:I2 b with
      | none=>rw [hIb] at hy;cases hy;simp
      | some r =>
       rw [hIb] at hy;cases hy
       have:r ≠ m0:=fun e=>hsame (by rw [hIb,e])
       simp;omega
     have ee:Hid (k <= K):=h! (by
      rcases dM K k with h | h
      ·exact absurd (bO.out.same am.out (fun {v} hv=>by have:=cf.out v hv;rw [ad.out] at this;exact this) HK.out h bq.out cq.out dk.out) hsame
      exact h)
     clear bf br hsame hy
     go_wp2
     go_roundw
     case rel =>
      refine ⟨i+1,upd' I2 b m0,true,hlt,by go_num,rfl, ?_,(fun h=>by cases h),fun _=>ee.out,BT.out.other _ (by have:=dx.out;simp only;omega), ?_,HW.out.setCell (p:=⟨lg,b,none⟩) (by have:=dx.out;simp only;omega) _⟩
      ·have h9:=cF.out
       rw [bs.out] at h9
       exact h9
      rw [<-aCQ an]
      exact ac.out.set (by rw [mX];exact an)
     simp [intOf];omega
   have ei:i=m:=by omega
   have er:Hid (Run (toB f) (fun b=>O.idxOf b) I2 (k+1) 1):=h! (ag.out.next am.out (fun v hv=>by
    have h9:=dC ((bd.out v).2 hv)
    have:=HM.out
    show O.idxOf v < i+1
    omega))
   have fm:Hid (chg=false -> 0 < k+1 /\ ∀ b:Nat,Way (toB f) (-1) b -> b ≠ 0 -> ∃ m,I2 b=some m/\lN (toB f) I2 b m):=h! (fun hc=>⟨Nat.succ_pos _,fun b hb hb0=>ar.out hc b hb hb0 (by
    have h9:=dC ((bd.out b).2 hb)
    have:=HM.out
    omega)⟩)
   clear ei
   go_wp2
   go_roundg (gk - 1)
   case measure=>omega
   exact ⟨k+1,I2,chg,rfl,er.out,fm.out,(fun hc=>by have:=bj.out hc;omega),by have:=ed.out;omega,BT.out,ac.out,HW.out⟩
end
end Go.Proofs.YtagabiidbbhhmaaGreat
