/- Part 25. -/
import Derived.Test.YtcmflfkpeodicaaGreatIRA24
namespace Go.Proofs.YtcmflfkpeodicaaGreat
set_option maxHeartbeats 25600000
set_option linter.all false
section
open Go.RowKit
theorem gL.placed {f:FuncD} {O:List Nat} (h:gL f O):Placed (toB f) (fun b=>O.idxOf b):=by
 obtain ⟨h1,h2,h3,h4,h5⟩:=h.facts
 have at_:∀ {b:Nat},Way (toB f) (-1) b -> O[O.idxOf b]? = some b:=fun {b} hb=>by
  have hm:=(h2 b).2 hb
  have hl:=cY hm
  rw [aB hl,List.getElem_idxOf hl]
 refine ⟨nY h1 h4,fun {a b} ha hb e => ?_,fun {b} hb hb0 => ?_⟩
 ·have e1:=at_ ha
  have e2:=at_ hb
  have e:O.idxOf a=O.idxOf b:=e
  rw [e,e2] at e1
  cases e1;rfl
 obtain ⟨j,p,hj,hp,hbp⟩:=h5 _ b (at_ hb) hb0
 exact ⟨p,(h2 p).1 (aG hp),hbp,by show O.idxOf p < O.idxOf b;rw [nY h1 hp];exact hj⟩
def encI (n:Nat) (I:Nat -> Option Nat):List Int:=(List.range n).map fun b=>match I b with | none => -1 | some p=>(p:Int)
theorem nE (n:Nat) (I:Nat -> Option Nat):(encI n I).length=n:=by simp [encI]
theorem mM {n b:Nat} {I:Nat -> Option Nat} (h:b < n):(encI n I)[b]? = some (match I b with | none => -1 | some p=>(p:Int)):=by simp [encI,h]
theorem lM {n b p:Nat} {I:Nat -> Option Nat} (h:b < n) (hp:I b=some p):(encI n I)[b]? = some (p:Int):=by rw [mM h,hp]
theorem aBA {n b:Nat} {I:Nat -> Option Nat} (h:b < n) (hp:I b=none):(encI n I)[b]? = some (-1):=by rw [mM h,hp]
theorem aCX {n b m:Nat} {I:Nat -> Option Nat} (h:b < n):(encI n I).set b (m:Int)=encI n (upd' I b m):=by
 apply bN
 intro t
 rw [cP,nE]
 by_cases ht:t < n
 ·rw [mM ht,mM ht]
  by_cases e:b=t
  ·subst e;rw [if_pos rfl,if_pos h,nT]
  rw [if_neg e,nD I m (Ne.symm e)]
 rw [aW (by rw [nE];omega),aW (by rw [nE];omega)]
 split <;> simp_all
theorem yB (n:Nat):encI n (fun _=>none)=List.replicate n (-1):=by
 apply bN
 intro t
 by_cases ht:t < n
 ·rw [mM ht];simp [ht]
 rw [aW (by rw [nE];omega),aW (by simp;omega)]
theorem lN {n b:Nat} {O:List Nat} (h:b < n):(gX n O O.length)[b]? = some (if b ∈ O then ((O.idxOf b:Nat):Int) else -1):=by
 unfold gX;rw [cM];simp [h]
theorem pH {n b:Nat} {O:List Nat} (h:b < n) (hb:b ∈ O):(gX n O O.length)[b]? = some ((O.idxOf b:Nat):Int):=by rw [lN h,if_pos hb]
theorem sU {n b:Nat} {O:List Nat} (h:b < n) (hb:b ∉ O):(gX n O O.length)[b]? = some (-1):=by rw [lN h,if_neg hb]
structure TreeM (f:FuncD) (W:World) (bt bg lg lcap:Nat) (g:Array Value) (pv ov lv:Value) (O:List Nat) (I:Nat -> Option Nat):Prop where
 tree:Box W bt #[.pointer (some ⟨bg,0,none⟩),.slice (some ⟨lg,0,none⟩) f.blocks.length lcap]
 graph:Box W bg (g ++ #[pv,ov,lv])
 gsize:g.size=4
 idom:Cells W (.slice (some ⟨lg,0,none⟩) f.blocks.length lcap) lg (encI f.blocks.length I)
 preds:kR W pv (gB f)
 order:Ints W ov (natI O)
 place:Ints W lv (gX f.blocks.length O O.length)
theorem TreeM.later {f:FuncD} {W W' : World} {bt bg lg lcap:Nat} {g:Array Value} {pv ov lv:Value} {O:List Nat} {I:Nat -> Option Nat} (h:TreeM f W bt bg lg lcap g pv ov lv O I) (hb:Below W.heap.size W W'):TreeM f W' bt bg lg lcap g pv ov lv O I :=
 ⟨h.tree.later hb,h.graph.later hb,h.gsize,h.idom.later hb,h.preds.below hb,h.order.below hb,h.place.below hb⟩
theorem aHT (g:Array Value) (pv ov lv:Value) (h:g.size=4):(g ++ #[pv,ov,lv])[4]? = some pv/\(g ++ #[pv,ov,lv])[5]? = some ov/\(g ++ #[pv,ov,lv])[6]? = some lv:=by
 refine ⟨?_, ?_, ?_⟩ <;> rw [Array.getElem?_append_right (by omega),h] <;> rfl
theorem TreeM.cells {f:FuncD} {W:World} {bt bg lg lcap:Nat} {g:Array Value} {pv ov lv:Value} {O:List Nat} {I:Nat -> Option Nat} (h:TreeM f W bt bg lg lcap g pv ov lv O I) :
  W.cell? ⟨bt,0,none⟩=some (.pointer (some ⟨bg,0,none⟩))/\W.cell? ⟨bt,1,none⟩=some (.slice (some ⟨lg,0,none⟩) f.blocks.length lcap)/\W.cell? ⟨bg,4,none⟩=some pv/\W.cell? ⟨bg,5,none⟩=some ov/\W.cell? ⟨bg,6,none⟩=some lv:=by
 obtain ⟨e4,e5,e6⟩:=aHT g pv ov lv h.gsize
 exact ⟨h.tree.at 0 rfl,h.tree.at 1 rfl,h.graph.at 4 e4,h.graph.at 5 e5,h.graph.at 6 e6⟩
theorem aBB {W:World} {f:FuncD} {bt bg lg lcap:Nat} {g:Array Value} {pv ov lv:Value} {O:List Nat} {I:Nat -> Option Nat} (hT:TreeM f W bt bg lg lcap g pv ov lv O I) (hO:gL f O) (h512:f.blocks.length <= 512) (hI:Tree (toB f) (fun b=>O.idxOf b) I)
  {x y:Nat} (hx:Proc I x) (hy:Proc I y) :
  Calls Tryz.prog 183 #[.pointer (some ⟨bt,0,none⟩),.int .i64 x,.int .i64 y] W fun e w' => ∃ m:Nat,e = .returned (.int .i64 m)/\Proc I m/\(∀ c,Anc I c m ↔ (Anc I c x/\Anc I c y))/\Below W.heap.size W w':=by
 obtain ⟨hc0,hc1, -, -,hc6⟩:=hT.cells
 obtain ⟨pa,pc,pb,po,hpe,hpc,hpm,hpa,hpx⟩:=hT.place.parts
 rw [fL] at hpe hpc hpa
 subst hpe
 obtain ⟨lc2, -, -, -,hil,hif⟩:=hT.idom.form
 obtain ⟨h1,h2,h3,h4,h5⟩:=hO.facts
 have hP:=hO.placed
 obtain ⟨nb,hnb⟩ : ∃ nb,nb=f.blocks.length:=⟨_,rfl⟩
 rw [<-hnb] at hc1 hpc hpa hil h512 h3 hc6
 have hn1:0 < nb:=by have:=h3 0 (aG h4);omega
 obtain ⟨rfl,hpb⟩:=hpa hn1
 have hlgl:=hT.idom.lt
 have hbtl:=hT.tree.lt
 have hbgl:=hT.graph.lt
 have HC0:=h! hc0
 have HC1:=h! hc1
 have HC6:=h! hc6
 have HPX:=h! hpx
 have HIL:=h! hil
 have HTR:=h! hI
 have HPL:=h! hP
 have HO2:=h! h2
 have HO3:=h! h3
 have HX:=h! hx
 have HY:=h! hy
 have HNB:=h! hnb
 have HW:=h! (Below.refl W.heap.size W)
 clear hT hc0 hc1 hc6 hpx hil hif h1 h2 h3 h4 h5 hP hI hO hx hy hnb hpa
 go_enter Tryz.func183,Tryz.ntmps183
 go_wp2_with fail
 go_loopw [1,2] (fun u v wr => ∃ a b:Nat,u = .int .i64 a/\v = .int .i64 b/\Proc I a/\Proc I b/\(∀ c,(Anc I c a/\Anc I c b) ↔ (Anc I c x/\Anc I c y))/\Below W.heap.size W wr) (fun u v _=>O.idxOf (intOf u).toNat+O.idxOf (intOf v).toNat)
 case atStart=>exact ⟨x,y,rfl,rfl,HX.out,HY.out,fun _=>Iff.rfl,HW.out⟩
 case round =>
  obtain ⟨a,b,rfl,rfl,ha,hb,hab,hW⟩:=hrel
  have hwa:=HTR.out.proc_way ha
  have hwb:=HTR.out.proc_way hb
  have hal:=HO3.out a ((HO2.out a).2 hwa)
  have hbl:=HO3.out b ((HO2.out b).2 hwb)
  have HA:=h! ha
  have HB:=h! hb
  have HAB:=h! hab
  have HWA:=h! hwa
  have HWB:=h! hwb
  replace HW:=h! hW
  clear ha hb hab hwa hwb hW
  by_cases hne:a=b
  ·have hq:((a:Int) != (b:Int))=false:=by simp [hne]
   have HNE:=h! hne
   clear hne
   go_wp2
   go_ret
   refine ⟨a,rfl,HA.out,fun c => ?_,HW.out⟩
   rw [<-HAB.out c, <-HNE.out]
   exact ⟨fun h=>⟨h,h⟩,fun h=>h.1⟩
  have hq:((a:Int) != (b:Int))=true:=by simp;omega
  have HNE:=h! hne
  have d0:=(HW.out.cell (p:=⟨bt,0,none⟩) hbtl).trans HC0.out
  have d1:=(HW.out.cell (p:=⟨bt,1,none⟩) hbtl).trans HC1.out
  have d6:=(HW.out.cell (p:=⟨bg,6,none⟩) hbgl).trans HC6.out
  have hpax:(gX f.blocks.length O O.length).getD a 0=((O.idxOf a:Nat):Int):=by rw [aH,pH (by rw [<-HNB.out];exact hal) ((HO2.out a).2 HWA.out)];rfl
  have hpbx:(gX f.blocks.length O O.length).getD b 0=((O.idxOf b:Nat):Int):=by rw [aH,pH (by rw [<-HNB.out];exact hbl) ((HO2.out b).2 HWB.out)];rfl
  have da:=(HW.out.cell (p:=⟨pb,po+a,none⟩) hpb).trans (HPX.out a (by rw [fL, <-HNB.out];exact hal))
  have db:=(HW.out.cell (p:=⟨pb,po+b,none⟩) hpb).trans (HPX.out b (by rw [fL, <-HNB.out];exact hbl))
  rw [hpax] at da
  rw [hpbx] at db
  have HPA:Hid (∃ pa:Nat,pa=O.idxOf a):=h! ⟨_,rfl⟩
  obtain ⟨ia,hia⟩:=HPA.out
  obtain ⟨ib,hib⟩ : ∃ ib,ib=O.idxOf b:=⟨_,rfl⟩
  rw [<-hia] at da
  rw [<-hib] at db
  have HIA:=h! hia
  have HIB:=h! hib
  clear hne hpax hpbx hia hib HPA
  by_cases hlt:ib < ia
  ·have hg:decide ((ib:Int) < (ia:Int))=true:=by simp;exact hlt
   obtain ⟨p,hp,hpp,hpl,hpm2⟩:=HTR.out.meets HPL.out.zero HA.out (y:=b) (by show O.idxOf b < O.idxOf a;rw [<-HIA.out, <-HIB.out];exact hlt)
   have dp:=(HW.out.cell (p:=⟨lg,a,none⟩) hlgl).trans (HIL.out a p (lM hal hp))
   have HP2:=h! hpp
   have HL2:=h! hpl
   have HM2:=h! hpm2
   clear hp hpp hpl hpm2
   go_upto_region 2 with (fail)
   go_quiet (fail)
   go_wp2
   go_roundw
   case rel=>exact ⟨p,b,rfl,rfl,HP2.out,HB.out,fun c=>(HM2.out c).trans (HAB.out c),eK HW.out _⟩
   have h9:=HL2.out
   simp only [intOf,cU] at h9 ⊢
   omega
  have hg:decide ((ib:Int) < (ia:Int))=false:=by simp;omega
  have hlt2:O.idxOf a < O.idxOf b:=by
   rw [<-HIA.out, <-HIB.out]
   rcases dC ia ib with h | h
   ·exact h
   exact absurd (HPL.out.inj HWA.out HWB.out (by show O.idxOf a=O.idxOf b;rw [<-HIA.out, <-HIB.out];omega)) HNE.out
  obtain ⟨p,hp,hpp,hpl,hpm2⟩:=HTR.out.meets HPL.out.zero HB.out (y:=a) hlt2
  have dp:=(HW.out.cell (p:=⟨lg,b,none⟩) hlgl).trans (HIL.out b p (lM hbl hp))
  have HP2:=h! hpp
  have HL2:=h! hpl
  have HM2:=h! hpm2
  clear hp hpp hpl hpm2 hlt2
  go_upto_region 2 with (fail)
  go_quiet (fail)
  go_wp2
  go_roundw
  case rel=>exact ⟨a,p,rfl,rfl,HA.out,HP2.out,fun c=>(and_comm.trans ((HM2.out c).trans and_comm)).trans (HAB.out c),eK HW.out _⟩
  have h9:=HL2.out
  simp only [intOf,cU] at h9 ⊢
  omega
end
section
open Go.RowKit
structure DomI (f:FuncD) (O:List Nat) (I:Nat -> Option Nat):Prop where
 tree:Tree (toB f) (fun b=>O.idxOf b) I
 proc:∀ {v:Nat},Way (toB f) (-1) v -> Proc I v
 anc:∀ {c v:Nat},Way (toB f) (-1) v -> (Anc I c v ↔ ¬ Way (toB f) (c:Int) v)
def NowI (f:FuncD) (I:Nat -> Option Nat) (l:List Nat) (x:Int):Prop :=
 (x = -1 /\ ∀ p ∈ l,Way (toB f) (-1) p -> ¬ Proc I p) \/ ∃ m:Nat,x=m/\Proc I m /\ ∀ c,Anc I c m ↔ ∀ p ∈ l,Way (toB f) (-1) p -> Proc I p -> Anc I c p
theorem NowI.skip {f:FuncD} {I:Nat -> Option Nat} {l:List Nat} {x:Int} {p:Nat} (h:NowI f I l x) (hp:Way (toB f) (-1) p -> ¬ Proc I p):NowI f I (l ++ [p]) x:=by
 rcases h with ⟨rfl,h⟩ | ⟨m,rfl,h1,h2⟩
 ·exact .inl ⟨rfl,fun q hq=>by rcases aO.1 hq with hq | hq;exact h q hq;simp at hq;subst hq;exact hp⟩
 refine .inr ⟨m,rfl,h1,fun c=>(h2 c).trans ⟨fun h q hq => ?_,fun h q hq=>h q (aO.2 (.inl hq))⟩⟩
 rcases aO.1 hq with hq | hq
 ·exact h q hq
 simp at hq;subst hq
 exact fun h3 h4=>absurd h4 (hp h3)
theorem NowI.first {f:FuncD} {I:Nat -> Option Nat} {l:List Nat} {p:Nat} (h:∀ q ∈ l,Way (toB f) (-1) q -> ¬ Proc I q) (hw:Way (toB f) (-1) p) (hp:Proc I p):NowI f I (l ++ [p]) p:=by
 refine .inr ⟨p,rfl,hp,fun c=>⟨fun hc q hq h3 h4 => ?_,fun h=>h p (aO.2 (.inr (by simp))) hw hp⟩⟩
 rcases aO.1 hq with hq | hq
 ·exact absurd h4 (h q hq h3)
 simp at hq;subst hq;exact hc
theorem NowI.more {f:FuncD} {I:Nat -> Option Nat} {l:List Nat} {m m' p:Nat} (h:∀ c,Anc I c m ↔ ∀ q ∈ l,Way (toB f) (-1) q -> Proc I q -> Anc I c q) (hw:Way (toB f) (-1) p) (hp:Proc I p) (hm:Proc I m')
  (hmm:∀ c,Anc I c m' ↔ (Anc I c m/\Anc I c p)):NowI f I (l ++ [p]) m':=by
 refine .inr ⟨m',rfl,hm,fun c=>(hmm c).trans ⟨fun ⟨h1,h2⟩ q hq h3 h4 => ?_,fun h1=>⟨(h c).2 fun q hq=>h1 q (aO.2 (.inl hq)),h1 p (aO.2 (.inr (by simp))) hw hp⟩⟩⟩
 rcases aO.1 hq with hq | hq
 ·exact (h c).1 h1 q hq h3 h4
 ·simp at hq;subst hq;exact h2
theorem NowI.done {f:FuncD} {I:Nat -> Option Nat} {b:Nat} {x:Int} (h:NowI f I (fO f f.blocks.length 0 b) x) (hlow:∀ p,Way (toB f) (-1) p -> p < f.blocks.length) (hex:∃ p,Way (toB f) (-1) p/\b ∈ toB f p/\Proc I p):∃ m:Nat,x=m/\lL (toB f) I b m:=by
 have hin:∀ p,Way (toB f) (-1) p -> (p ∈ fO f f.blocks.length 0 b ↔ b ∈ toB f p):=fun p hp=>by
  rw [gJ,List.mem_filter]
  constructor
  ·intro h;simpa using h.2
  intro h;exact ⟨List.mem_range.2 (hlow p hp),by simpa using h⟩
 rcases h with ⟨rfl,h⟩ | ⟨m,rfl,h1,h2⟩
 ·obtain ⟨p,p1,p2,p3⟩:=hex
  exact absurd p3 (h p ((hin p p1).2 p2) p1)
 exact ⟨m,rfl,h1,fun c=>(h2 c).trans ⟨fun h p hp hw hpp=>h p ((hin p hw).2 hp) hw hpp,fun h p hp hw hpp=>h p ((hin p hw).1 hp) hw hpp⟩⟩
def aFR (f:FuncD) (v:Value) (bg:Nat) (O:List Nat) (w:World) (e:Ending) (w' : World):Prop :=
 ∃ (bt lg lcap:Nat) (g:Array Value) (pv ov lv:Value) (I:Nat -> Option Nat),e = .returned (.pointer (some ⟨bt,0,none⟩))/\v = .agg g/\TreeM f w' bt bg lg lcap g pv ov lv O I/\DomI f O I/\Below w.heap.size w w'
set_option maxRecDepth 100000 in
theorem aHU {w w0:World} {v:Value} {f:FuncD} {bg:Nat} {O:List Nat} (hv:gG w v f) (hG:mU f v w0 w bg O) (hO:gL f O) (hf:gM f=true) :
  Calls Tryz.prog 125 #[.pointer (some ⟨bg,0,none⟩)] w (aFR f v bg O w):=by
 obtain ⟨hn1,hn2⟩:=gV hf
 obtain ⟨ap,cp,ab,cb,hvv, -, -, -, -⟩:=hv.form
 obtain ⟨a0,a1,a2,a3,pv,ov,lv,e1,hB,hbg0,hP,hL,hI⟩:=hG
 rw [hvv] at e1
 injection e1 with e1
 injection e1 with e1
 injection e1 with e10 e1
 injection e1 with e11 e1
 injection e1 with e12 e1
 injection e1 with e13 e1
 subst e10 e11 e12 e13
 subst hvv
 obtain ⟨h1,h2,h3,h4,h5⟩:=hO.facts
 have hPd:=hO.placed
 have hle:=hO.le
 obtain ⟨oa,oc,ob,oo,hoe,hoc,hom,hoa,hox⟩:=hL.parts
 obtain ⟨vs,pa,pc,pb,po,hpe,hpc,hpm,hpl,hpa,hpx,hpy⟩:=hP.parts
 obtain ⟨la,lc,lb,lo,hle2,hlc,hlm,hla,hlx⟩:=hI.parts
 rw [fW] at hoe hoc hoa
 have hpln:(gB f).length=f.blocks.length:=by unfold gB;rw [gR]
 rw [hpln] at hpe hpc hpa hpl
 rw [fL] at hle2 hlc hla
 obtain ⟨K,hK⟩:=aCQ (toB f) (fun b=>O.idxOf b) f.blocks.length
 obtain ⟨m,hm⟩ : ∃ m,m=O.length:=⟨_,rfl⟩
 have hm1:1 <= m:=by rw [hm];have:=(aE.1 h4).1;omega
 have hmn:m <= f.blocks.length:=by rw [hm];exact hle
 rw [<-hm] at hoe hoc hoa
 obtain ⟨rfl,hob⟩:=hoa (by omega)
 obtain ⟨rfl,hpb⟩:=hpa (by omega)
 obtain ⟨rfl,hlb⟩:=hla (by omega)
 have HPR:=h! hP
 have HLR:=h! hL
 have HIR:=h! hI
 have HBR:=h! hB
 subst hoe hpe hle2
 have hgc3:=hB.at 3 rfl
 have hgc4:=hB.at 4 rfl
 have hgc5:=hB.at 5 rfl
 have hgc6:=hB.at 6 rfl
 have hbgl:=hB.lt
 obtain ⟨nb,hnb⟩ : ∃ nb,nb=f.blocks.length:=⟨_,rfl⟩
 have HH1:=h! h1
 have HH2:=h! h2
 have HH3:=h! h3
 have HH4:=h! h4
 have HPD:=h! hPd
 obtain ⟨m,rfl⟩ : ∃ m',m=m' + 1:=⟨m - 1,by omega⟩
 have HM:=h! hm
 have HOC:=h! hoc
 have HOX:=h! hox
 have HPX:=h! hpx
 have HPY:=h! hpy
 have HLX:=h! hlx
 have HK:=h! hK
 have HOO:=h! hO
 have HPN:=h! hpln
 rw [<-hnb] at hgc3 hgc4 hgc6 hpc hpl hlc hn1 hn2 hmn
 have HNB:=h! hnb
 have HG3:=h! hgc3
 have HG4:=h! hgc4
 have HG5:=h! hgc5
 have HG6:=h! hgc6
 have hn0:(0:Int) <= (nb:Int):=by omega
 clear h1 h2 h3 h4 h5 hPd hle hm hoc hm1 hox hpx hpy hlx hK hO hpln hP hL hI hB hoa hpa hla hv hf hnb hgc3 hgc4 hgc5 hgc6
 have hgc3:=HG3.out
 go_enter Tryz.func125,Tryz.ntmps125
 go_wp2_with fail
 have hbA:=(Below.refl w.heap.size w).alloc (aF _) (.cells #[.int .i64 (-1)] 3)
 refine (pA (x := -1) (n:=nb) (oK (Box.new w _ _) ⟨by decide,by decide⟩) (by omega)).mono ?_
 rintro e w2 ⟨u,rfl,hu,hb2⟩
 obtain ⟨lg,hcl,hlg⟩:=hu.cells (by simp;omega)
 obtain ⟨lcap,elv, -, -, -, -⟩:=hcl.form
 rw [aV] at elv
 subst elv
 have HW:Hid (Below w.heap.size w w2):=h! (hbA.trans (hb2.mono (by simp)))
 have HCL:Hid (Cells w2 (.slice (some ⟨lg,0,none⟩) nb lcap) lg (encI nb fun _=>none)):=h! (by rw [yB];exact hcl)
 have HLG:Hid (w.heap.size < lg):=h! (by have:=hlg;simp at this;omega)
 clear hbA hu hb2 hcl hlg
 go_upto_region 2 with (fail)
 have hl2:=HCL.out.lt
 have hs2:=HW.out.size
 have hA_:=(Below.refl w2.heap.size w2).alloc (aF _) (.cells #[.pointer (some ⟨bg,0,none⟩),.slice (some ⟨lg,0,none⟩) nb lcap] 109)
 replace HCL:=h! (HCL.out.later hA_)
 replace HW:=h! (HW.out.trans (hA_.mono HW.out.size))
 clear hA_
 have BT:=h! (Box.new w2 #[.pointer (some ⟨bg,0,none⟩),.slice (some ⟨lg,0,none⟩) nb lcap] 109)
 generalize w2.alloc (.cells #[.pointer (some ⟨bg,0,none⟩),.slice (some ⟨lg,0,none⟩) nb lcap] 109)=w3 at *
 obtain ⟨lBT,cBT,fBT⟩:=BT.out
 clear lBT cBT fBT
 obtain ⟨bt,hbt⟩ : ∃ bt,bt=w2.heap.size:=⟨_,rfl⟩
 rw [<-hbt] at BT
 have HBL:Hid (lg < bt/\w.heap.size < bt/\w.heap.size < lg):=h! (by have:=HLG.out;omega)
 simp only [<-hbt]
 clear hbt hl2 hs2 HLG
 have MKT:Hid (∀ (wr:World) (I:Nat -> Option Nat),Below w.heap.size w wr -> Box wr bt #[.pointer (some ⟨bg,0,none⟩),.slice (some ⟨lg,0,none⟩) nb lcap] -> Cells wr (.slice (some ⟨lg,0,none⟩) nb lcap) lg (encI nb I) ->
   TreeM f wr bt bg lg lcap #[.slice ap f.params.length cp,.int .i64 f.arrays,.int .i64 f.cells,.slice ab nb cb] (.slice (some ⟨pb,po,none⟩) nb pc) (.slice (some ⟨ob,oo,none⟩) (m+1) oc) (.slice (some ⟨lb,lo,none⟩) nb lc) O I):=h! (fun wr I h1 h2 h3=>by
  have hP:=HPR.out.below h1
  have hL:=HLR.out.below h1
  have hI:=HIR.out.below h1
  have hB:=HBR.out.later h1
  rw [<-HNB.out] at hP hI hB
  exact ⟨by rw [<-HNB.out];exact h2,hB,rfl,by rw [<-HNB.out];exact h3,hP,hL,by rw [<-HNB.out];exact hI⟩)
 have HWL:Hid (∀ v:Nat,Way (toB f) (-1) v -> v < nb):=h! (fun v hv=>by rw [HNB.out];exact HH3.out v ((HH2.out v).2 hv))
 have RUN:Hid (Run (toB f) (fun b=>O.idxOf b) (fun _=>none) 0 1):=h! (Run.start HPD.out)
 go_wp2_with fail
 go_loopg [4] (K+3) (fun fuel cv wr => ∃ (k:Nat) (I:Nat -> Option Nat) (chg:Bool),cv = .bool chg/\Run (toB f) (fun b=>O.idxOf b) I k 1/\(chg=false -> 0 < k /\ ∀ b:Nat,Way (toB f) (-1) b -> b ≠ 0 -> ∃ m,I b=some m/\lL (toB f) I b m)/\(chg=true -> k <= K+1)/\k+fuel=K+3 /\
  Box wr bt #[.pointer (some ⟨bg,0,none⟩),.slice (some ⟨lg,0,none⟩) nb lcap]/\Cells wr (.slice (some ⟨lg,0,none⟩) nb lcap) lg (encI nb I)/\Below w.heap.size w wr)
 case atStart=>exact ⟨0,_,true,rfl,RUN.out,(fun h=>by cases h),(fun _=>by omega),by omega,BT.out,HCL.out,HW.out⟩
 case round =>
  obtain ⟨k,I,chg,rfl,hR,hF,hT,hk,hbt,hcl,hW⟩:=hrel
  replace RUN:=h! hR
  have HFX:=h! hF
  have HTC:=h! hT
  replace BT:=h! hbt
  replace HCL:=h! hcl
  replace HW:=h! hW
  clear hR hF hT hbt hcl hW
  generalize wr=w4 at *
  cases chg
  ·have HDI:Hid (DomI f O I):=h! ⟨RUN.out.tree,fun hv=>RUN.out.proc hv (.inr (HFX.out rfl).1),fun hv=>RUN.out.fixed (fun hv=>RUN.out.proc hv (.inr (HFX.out rfl).1)) (fun {b}=>(HFX.out rfl).2 b) hv⟩
   have HTM:=h! (MKT.out w4 I HW.out BT.out HCL.out)
   go_wp2
   go_ret
   exact ⟨bt,lg,lcap,_,_,_,_,I,rfl,by rw [HNB.out],HTM.out,HDI.out,HW.out⟩
  have hkK:=HTC.out rfl
  have HKK:=h! hkK
  clear hkK HFX HTC
  have HGK:=h! hk
  have hfuel:0 < gk:=by have:=HKK.out;omega
  clear hk
  have d5:=(HW.out.cell (p:=⟨bg,5,none⟩) hbgl).trans HG5.out
  rcases Decidable.em (oc=1) with hoc1 | hoc1
  all_goals
   try subst hoc1
   go_wp2_with fail
   clear d5
   go_loopw [4,28] (fun cv iv wr => ∃ (i:Nat) (I:Nat -> Option Nat) (chg:Bool),i <= m/\iv = .int .i64 i/\cv = .bool chg/\Run (toB f) (fun b=>O.idxOf b) I k (i+1)/\(chg=false -> ∀ b:Nat,Way (toB f) (-1) b -> b ≠ 0 -> O.idxOf b < i+1 -> ∃ m,I b=some m/\lL (toB f) I b m)/\(chg=true -> k <= K) /\
    Box wr bt #[.pointer (some ⟨bg,0,none⟩),.slice (some ⟨lg,0,none⟩) nb lcap]/\Cells wr (.slice (some ⟨lg,0,none⟩) nb lcap) lg (encI nb I)/\Below w.heap.size w wr) (fun _ iv _=>m - (intOf iv).toNat)
   case atStart=>exact ⟨0,I,false,aP _,rfl,rfl,RUN.out,(fun _ b hb hb0 hl=>absurd (HPD.out.inj hb (.zero (by decide)) (by rw [HPD.out.zero];exact Nat.lt_one_iff.1 hl)) hb0),(fun h=>by cases h),BT.out,HCL.out,HW.out⟩
   obtain ⟨i,I2,chg,hi,rfl,rfl,hR,hF,hT,hbt,hcl,hW⟩:=hrel
   replace RUN:=h! hR
   have HFX:=h! hF
   have HTC:=h! hT
   replace BT:=h! hbt
   replace HCL:=h! hcl
   replace HW:=h! hW
   clear hR hF hT hbt hcl hW
   generalize wr=w5 at *
   by_cases hlt:i < m
   ·try (exfalso;have:=HOC.out;omega)
    all_goals
     obtain ⟨b,hb⟩ : ∃ b,O[i+1]? = some b:=⟨_,aB (by have:=HM.out;omega)⟩
     have hbm:=aG hb
     have hbw:=(HH2.out b).1 hbm
     have hbl:=HWL.out b hbw
     have hbi:=nY HH1.out hb
     have hb0:b ≠ 0:=fun e=>by rw [e,HPD.out.zero] at hbi;omega
     have HBM:=h! hbm
     have HBW:=h! hbw
     have HBI:=h! hbi
     have HB0:=h! hb0
     have hco:=(HW.out.cell (p:=⟨ob,oo+(i+1),none⟩) hob).trans (HOX.out (i+1) (by rw [fW, <-HM.out];omega))
     rw [show (natI O).getD (i+1) 0=(b:Int) by unfold natI;rw [aH,aU,hb];rfl,show oo+(i+1)=oo+1+i by omega] at hco
     have d4:=(HW.out.cell (p:=⟨bg,4,none⟩) hbgl).trans HG4.out
     obtain ⟨ps,hps⟩ : ∃ ps,ps=fO f f.blocks.length 0 b:=⟨_,rfl⟩
     have HPS:=h! hps
     have hpg:(gB f).getD b []=natI ps:=by
      rw [hps,aH]
      unfold gB
      rw [jZ (by rw [<-HNB.out];exact hbl)]
      rfl
     have hPS:∀ p ∈ ps,p < nb:=fun p hp=>by
      rw [hps,gJ] at hp
      rw [HNB.out]
      exact cO.1 (List.mem_filter.1 hp).1
     have hcp:=(HW.out.cell (p:=⟨pb,po+b,none⟩) hpb).trans (HPX.out b (by rw [HPN.out, <-HNB.out];exact hbl))
     have hIP:Ints w (vs.getD b undef) (natI ps):=by
      have h9:=HPY.out b (by rw [HPN.out, <-HNB.out];exact hbl)
      rwa [hpg] at h9
     have hml:ps.length <= nb+1:=by rw [hps,HNB.out];exact nX f f.blocks.length 0 b
     obtain ⟨qa,qc,qb,qo,hqe,hqc,hqm,hqa,hqx⟩:=hIP.parts
     rw [hqe] at hcp
     obtain ⟨pl,hpl2⟩ : ∃ pl,pl=ps.length:=⟨_,rfl⟩
     rw [fW, <-hpl2] at hcp hqc hqa
     rw [<-hpl2] at hml
     have HPL2:=h! hpl2
     have HQA:=h! hqa
     have HQX:=h! hqx
     have HPSL:=h! hPS
     clear hb hbm hbw hbi hb0 hps hpg hPS hIP hqe hpl2 hqa hqx hqc
     have HNW:Hid (NowI f I2 (ps.take 0) (-1)):=h! (.inl ⟨rfl,by simp⟩)
     go_wp2_with fail
     clear hco d4 hcp
     go_loopw [7,40] (fun nv qv wr => ∃ (q:Nat) (x:Int),q <= pl/\qv = .int .i64 q/\nv = .int .i64 x/\NowI f I2 (ps.take q) x /\
      Box wr bt #[.pointer (some ⟨bg,0,none⟩),.slice (some ⟨lg,0,none⟩) nb lcap]/\Cells wr (.slice (some ⟨lg,0,none⟩) nb lcap) lg (encI nb I2)/\Below w.heap.size w wr) (fun _ qv _=>pl - (intOf qv).toNat)
     case atStart=>exact ⟨0, -1,aP _,rfl,rfl,HNW.out,BT.out,HCL.out,HW.out⟩
     obtain ⟨q,x,hq,rfl,rfl,hnow,hbt,hcl,hW⟩:=hrel
     have HNOW:=h! hnow
     replace BT:=h! hbt
     replace HCL:=h! hcl
     replace HW:=h! hW
     clear hnow hbt hcl hW
     generalize wr=w7 at *
     obtain ⟨lB,cB,fB⟩:=BT.out
     obtain ⟨lc2, -, -, -,hil,hif⟩:=HCL.out.form
     have HIL:=h! hil
     by_cases hltq:q < pl
     ·obtain ⟨rfl,hqb⟩:=HQA.out (by omega)
      obtain ⟨p,hp⟩ : ∃ p,ps[q]? = some p:=⟨_,aB (by have:=HPL2.out;omega)⟩
      have hpl3:p < nb:=HPSL.out p (aG hp)
      have hcq:=(HW.out.cell (p:=⟨qb,qo+q,none⟩) hqb).trans (HQX.out q (by rw [fW, <-HPL2.out];exact hltq))
      rw [show (natI ps).getD q 0=(p:Int) by unfold natI;rw [aH,aU,hp];rfl] at hcq
      have HTK:Hid (ps.take (q+1)=ps.take q ++ [p]):=h! (eP _ _ _ hp)
      have d6:=(HW.out.cell (p:=⟨bg,6,none⟩) hbgl).trans HG6.out
      have dpl:=(HW.out.cell (p:=⟨lb,lo+p,none⟩) hlb).trans (HLX.out p (by rw [fL, <-HNB.out];exact hpl3))
      rw [aH,lN (by rw [<-HNB.out];exact hpl3),dA] at dpl
      clear hp hil hif
      by_cases hpO:p ∈ O
      ·have hpw:=(HH2.out p).1 hpO
       rw [if_pos hpO] at dpl
       have HPW:=h! hpw
       have hneg:decide (((O.idxOf p:Nat):Int) < 0)=false:=by simp
       clear hpO hpw
       by_cases hp0:p=0
       ·have hpz:((p:Int) != 0)=false:=by simp [hp0]
        have HPP:Hid (Proc I2 p):=h! (.inl hp0)
        clear hp0
        rcases HNOW.out with ⟨hx1,hx⟩ | ⟨m1,hx1,hm1,hx⟩
        ·subst hx1
         have HX:=h! hx
         clear hx
         go_wp2
         go_roundw
         case rel=>exact ⟨q+1,p,hltq,by go_num,rfl,by rw [HTK.out];exact NowI.first HX.out HPW.out HPP.out,BT.out,HCL.out,HW.out⟩
         simp [intOf];omega
        subst hx1
        have HX:=h! hx
        have HM1:=h! hm1
        have hm1n:decide ((m1:Int) < 0)=false:=by simp
        clear hx hm1
        go_wp2_with fail
        refine (aBB (MKT.out w7 I2 HW.out BT.out HCL.out) HOO.out (by rw [<-HNB.out];exact hn2) RUN.out.tree HM1.out HPP.out).mono ?_
        rintro e w8 ⟨m2,rfl,hm2,hmm,hb8⟩
        have HM2:=h! hm2
        have HMM:=h! hmm
        have BT8:=h! (BT.out.later hb8)
        have HC8:=h! (HCL.out.later hb8)
        have HW8:=h! (HW.out.trans (hb8.mono HW.out.size))
        clear hm2 hmm hb8
        go_wp2
        go_roundw
        case rel=>exact ⟨q+1,m2,hltq,by go_num,rfl,by rw [HTK.out];exact NowI.more HX.out HPW.out HPP.out HM2.out HMM.out,BT8.out,HC8.out,HW8.out⟩
        simp [intOf];omega
       have hpz:((p:Int) != 0)=true:=by simpa using hp0
       cases hIp:I2 p with
       | none =>
        have dip:=HIL.out p (-1) (aBA hpl3 hIp)
        have HNP:Hid (¬ Proc I2 p):=h! (fun h=>by
         rcases h with h | h
         ·exact hp0 h
         rw [hIp] at h;cases h)
        clear hp0 hIp
        go_wp2
        go_roundw
        case rel=>exact ⟨q+1,x,hltq,by go_num,rfl,by rw [HTK.out];exact HNOW.out.skip (fun _=>HNP.out),BT.out,HCL.out,HW.out⟩
        simp [intOf];omega
       | some r =>
        have dip:=HIL.out p r (lM hpl3 hIp)
        have HPP:Hid (Proc I2 p):=h! (.inr (by rw [hIp];rfl))
        have hrn:decide ((r:Int) < 0)=false:=by simp
        clear hp0 hIp
        rcases HNOW.out with ⟨hx1,hx⟩ | ⟨m1,hx1,hm1,hx⟩
        ·subst hx1
         have HX:=h! hx
         clear hx
         go_wp2
         go_roundw
         case rel=>exact ⟨q+1,p,hltq,by go_num,rfl,by rw [HTK.out];exact NowI.first HX.out HPW.out HPP.out,BT.out,HCL.out,HW.out⟩
         simp [intOf];omega
        subst hx1
        have HX:=h! hx
        have HM1:=h! hm1
        have hm1n:decide ((m1:Int) < 0)=false:=by simp
        clear hx hm1
        go_wp2_with fail
        refine (aBB (MKT.out w7 I2 HW.out BT.out HCL.out) HOO.out (by rw [<-HNB.out];exact hn2) RUN.out.tree HM1.out HPP.out).mono ?_
        rintro e w8 ⟨m2,rfl,hm2,hmm,hb8⟩
        have HM2:=h! hm2
        have HMM:=h! hmm
        have BT8:=h! (BT.out.later hb8)
        have HC8:=h! (HCL.out.later hb8)
        have HW8:=h! (HW.out.trans (hb8.mono HW.out.size))
        clear hm2 hmm hb8
        go_wp2
        go_roundw
        case rel=>exact ⟨q+1,m2,hltq,by go_num,rfl,by rw [HTK.out];exact NowI.more HX.out HPW.out HPP.out HM2.out HMM.out,BT8.out,HC8.out,HW8.out⟩
        simp [intOf];omega
      rw [if_neg hpO] at dpl
      have HNO:Hid (Way (toB f) (-1) p -> ¬ Proc I2 p):=h! (fun h=>absurd ((HH2.out p).2 h) hpO)
      clear hpO
      go_wp2
      go_roundw
      case rel=>exact ⟨q+1,x,hltq,by go_num,rfl,by rw [HTK.out];exact HNOW.out.skip HNO.out,BT.out,HCL.out,HW.out⟩
      simp [intOf];omega
     have hql:q=pl:=by omega
     have HRB:Hid (Run (toB f) (fun b=>O.idxOf b) I2 k (O.idxOf b)):=h! (by rw [HBI.out];exact RUN.out)
     obtain ⟨m0,hm0,hma⟩ : ∃ m:Nat,x=m/\lL (toB f) I2 b m:=by
      have h9:=HNOW.out
      rw [hql,aI (by have:=HPL2.out;omega),HPS.out] at h9
      refine h9.done (fun p hp=>by rw [<-HNB.out];exact HWL.out p hp) ?_
      obtain ⟨p0,p1,p2,p3⟩:=HPD.out.ahead HBW.out HB0.out
      exact ⟨p0,p1,p2,HRB.out.proc p1 (.inl p3)⟩
     subst hm0
     have HMA:=h! hma
     have HST:=h! (HRB.out.step HPD.out HBW.out HB0.out hma)
     clear hma hql
     by_cases hsame:I2 b=some m0
     ·have dib:=hil b m0 (lM hbl hsame)
      have hmm:((m0:Int) != (m0:Int))=false:=by simp
      have HSM:=h! hsame
      clear hil hif hsame
      go_wp2
      go_roundw
      case rel =>
       refine ⟨i+1,I2,chg,hlt,by go_num,rfl, ?_,fun hc b2 hb2 hb20 hl2 => ?_,HTC.out,BT.out,HCL.out,HW.out⟩
       ·have h9:=HST.out
        rw [aA6 HSM.out,HBI.out] at h9
        exact h9
       by_cases e:O.idxOf b2 < i+1
       ·exact HFX.out hc b2 hb2 hb20 e
       have e2:b2=b:=HPD.out.inj hb2 HBW.out (by show O.idxOf b2=O.idxOf b;rw [HBI.out];omega)
       subst e2
       exact ⟨m0,HSM.out,HMA.out⟩
      simp [intOf];omega
     obtain ⟨y,hy⟩ : ∃ y,(encI nb I2)[b]? = some y:=⟨_,mM hbl⟩
     have dib:=hil b y hy
     have hfb:=hif b
     have hmm:((m0:Int) != y)=true:=by
      rw [mM hbl] at hy
      cases hIb:I2 b with
      | none=>rw [hIb] at hy;cases hy;simp
      | some r =>
       rw [hIb] at hy;cases hy
       have:r ≠ m0:=fun e=>hsame (by rw [hIb,e])
       simp;omega
     have HKL:Hid (k <= K):=h! (by
      rcases dC K k with h | h
      ·exact absurd (HRB.out.same HPD.out (fun {v} hv=>by have:=HWL.out v hv;rw [HNB.out] at this;exact this) HK.out h HBW.out HB0.out HMA.out) hsame
      exact h)
     clear hil hif hsame hy
     go_wp2
     go_roundw
     case rel =>
      refine ⟨i+1,upd' I2 b m0,true,hlt,by go_num,rfl, ?_,(fun h=>by cases h),fun _=>HKL.out,BT.out.other _ (by have:=HBL.out;simp only;omega), ?_,HW.out.setCell (p:=⟨lg,b,none⟩) (by have:=HBL.out;simp only;omega) _⟩
      ·have h9:=HST.out
       rw [HBI.out] at h9
       exact h9
      rw [<-aCX hbl]
      exact HCL.out.set (by rw [nE];exact hbl)
     simp [intOf];omega
   have him:i=m:=by omega
   have HNX:Hid (Run (toB f) (fun b=>O.idxOf b) I2 (k+1) 1):=h! (RUN.out.next HPD.out (fun v hv=>by
    have h9:=cY ((HH2.out v).2 hv)
    have:=HM.out
    show O.idxOf v < i+1
    omega))
   have HFY:Hid (chg=false -> 0 < k+1 /\ ∀ b:Nat,Way (toB f) (-1) b -> b ≠ 0 -> ∃ m,I2 b=some m/\lL (toB f) I2 b m):=h! (fun hc=>⟨Nat.succ_pos _,fun b hb hb0=>HFX.out hc b hb hb0 (by
    have h9:=cY ((HH2.out b).2 hb)
    have:=HM.out
    omega)⟩)
   clear him
   go_wp2
   go_roundg (gk - 1)
   case measure=>omega
   exact ⟨k+1,I2,chg,rfl,HNX.out,HFY.out,(fun hc=>by have:=HTC.out hc;omega),by have:=HGK.out;omega,BT.out,HCL.out,HW.out⟩
end
end Go.Proofs.YtcmflfkpeodicaaGreat
