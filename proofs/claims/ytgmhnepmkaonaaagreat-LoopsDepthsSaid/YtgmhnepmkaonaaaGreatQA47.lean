/- Part 47. -/
import Derived.Test.YtgmhnepmkaonaaaGreatQA36
import Derived.Test.YtgmhnepmkaonaaaGreatQA42
import Derived.Test.YtgmhnepmkaonaaaGreatQA46
import Derived.Test.YtgmhnepmkaonaaaGreatQA16
import Derived.Laws.Shifts
import Derived.Laws.EntriesVeiled
import Derived.WalkSmall
import Derived.Defers
import Derived.Recover
import Derived.Test.YtgmhnepmkaonaaaGreatQA6
import Derived.Test.YtgmhnepmkaonaaaGreatQA28
import Derived.Test.YtgmhnepmkaonaaaGreatQA2
import Derived.Test.YtgmhnepmkaonaaaGreatQA44
import Derived.Test.YtgmhnepmkaonaaaGreatQA37
import Derived.Test.YtgmhnepmkaonaaaGreatQA32
namespace Go.Proofs.YtgmhnepmkaonaaaGreat
private theorem h! {p : Prop} (h : p) : Go.RowKit.Hid p := Go.Lib.hid h
set_option maxHeartbeats 6400000
set_option linter.unusedSimpArgs false
set_option linter.unusedVariables false
open Go.RowKit
theorem least_one {P:Nat -> Prop} {c d:Nat} (h1:P c) (h2:∀ i,i < c -> ¬ P i) (k1:P d) (k2:∀ i,i < d -> ¬ P i):c=d:=by
 rcases Nat.lt_trichotomy c d with h | h | h
 ·exact absurd h1 (k2 c h)
 ·exact h
 ·exact absurd k1 (h2 d h)
theorem fault_one {f:FuncD} {b k b' k' : Int} (h:FaultR f b k) (h' : FaultR f b' k'):b=b' /\ k=k':=by
 rcases h with ⟨c,hc,hn,hl,rfl,rfl⟩ | ⟨hall,h⟩
 ·rcases h' with ⟨c',hc',hn',hl',rfl,rfl⟩ | ⟨hall', -⟩
  ·have:=least_one (P:=fun c => ¬ Way (toB f) (-1) c) hn (fun i hi h=>h (hl i hi)) hn' (fun i hi h=>h (hl' i hi))
   subst this
   exact ⟨rfl,rfl⟩
  ·exact absurd (hall' c hc) hn
 ·rcases h' with ⟨c',hc',hn',hl',rfl,rfl⟩ | ⟨hall',h'⟩
  ·exact absurd (hall c' hc') hn'
  ·rcases h with ⟨c,x,hx,hn,hl,rfl,rfl⟩ | ⟨hp,h⟩
   ·rcases h' with ⟨c',x',hx',hn',hl',rfl,rfl⟩ | ⟨hp', -⟩
    ·have:=least_one (P:=fun c => ∃ x,f.blocks[c]? = some x/\x.phis.all (phiFits (natI (predN f f.blocks.length 0 c)))=false) ⟨x,hx,hn⟩ (fun i hi ⟨y,hy,h⟩=>by rw [hl i y hi hy] at h;cases h) ⟨x',hx',hn'⟩ (fun i hi ⟨y,hy,h⟩=>by rw [hl' i y hi hy] at h;cases h)
     subst this
     exact ⟨rfl,rfl⟩
    ·have:=hp' c x hx
     rw [hn] at this;cases this
   ·rcases h' with ⟨c',x',hx',hn',hl',rfl,rfl⟩ | ⟨hp',h'⟩
    ·have:=hp c' x' hx'
     rw [hn'] at this;cases this
    ·rcases h with ⟨i,u,hu,hn,hl,rfl,rfl⟩ | ⟨ha,rfl,rfl⟩
     ·rcases h' with ⟨i',u',hu',hn',hl',rfl,rfl⟩ | ⟨ha',rfl,rfl⟩
      ·have:=least_one (P:=fun i => ∃ u,(uxF f)[i]? = some u /\ ¬ UseOk f u) ⟨u,hu,hn⟩ (fun j hj ⟨y,hy,h⟩=>h (hl y (List.mem_of_getElem? (i:=j) (by rw [List.getElem?_take,if_pos hj];exact hy)))) ⟨u',hu',hn'⟩ (fun j hj ⟨y,hy,h⟩=>h (hl' y (List.mem_of_getElem? (i:=j) (by rw [List.getElem?_take,if_pos hj];exact hy))))
       subst this
       rw [hu] at hu'
       cases hu'
       exact ⟨rfl,rfl⟩
      ·exact absurd (ha' u (List.mem_of_getElem? hu)) hn
     ·rcases h' with ⟨i',u',hu',hn',hl',rfl,rfl⟩ | ⟨ha',rfl,rfl⟩
      ·exact absurd (ha u' (List.mem_of_getElem? hu')) hn'
      ·exact ⟨rfl,rfl⟩
theorem LoopV.one {W:World} {cs:List Value} {l:LoopD} (h:LoopV W cs l):∀ u ∈ cs,u.oneCell' = true:=by
 obtain ⟨a1,a2,a3,c1,c2,c3,rfl, -⟩:=h
 intro u hu
 simp at hu
 rcases hu with rfl | rfl | rfl | rfl | rfl <;> rfl
theorem heads_le (f:FuncD):(loopsF f).length <= f.blocks.length:=by
 rw [loopsF_len]
 unfold headsN
 exact Nat.le_trans (List.length_filter_le _ _) (by rw [List.length_range];exact Nat.le_refl _)
def ErrK (f:FuncD) (k:Int):Prop:=(checkF f ≠ 0/\k=checkF f) \/ (checkF f=0 /\ ∃ b,FaultR f b k)
def ForR (f : FuncD) (w : World) (e : Ending) (w' : World) : Prop := Below w.heap.size w w' ∧
  ((¬ (checkF f = 0 ∧ FaultR f 0 0) ∧ ∃ k : Int, (k ≠ 0 ∧ ErrK f k) ∧ e = .returned (.tuple #[.slice none 0 0, .int .i64 k])) ∨
   (checkF f = 0 ∧ FaultR f 0 0 ∧ ∃ (a : Option Addr) (c : Nat) (O : List Nat), e = .returned (.tuple #[.slice a (loopsF f).length c, .int .i64 0]) ∧ IsOrder f O ∧ LoopsV w' (.slice a (loopsF f).length c) (loopsF f)))
theorem loopsForest {w:World} {v:Value} {f:FuncD} (hv:FuncV w v f):Calls Tryz.prog 30 #[v] w (ForR f w):=by
 have HV:=h! hv
 obtain ⟨ap,cp,ab,cb,rfl, -, -, -,hbk⟩:=hv.form
 clear hv hbk
 go_enter Tryz.func30,Tryz.ntmps30
 go_upto_region 1 with (fail)
 have B1:Hid (Box (w.alloc (.cells #[.slice ap f.params.length cp,.int .i64 f.arrays,.int .i64 f.cells,.slice ab f.blocks.length cb] 25)) (w.heap.size) #[.slice ap f.params.length cp,.int .i64 f.arrays,.int .i64 f.cells,.slice ab f.blocks.length cb]):=h! (by simpa using (Box.new w #[.slice ap f.params.length cp,.int .i64 f.arrays,.int .i64 f.cells,.slice ab f.blocks.length cb] 25))
 have HW:Hid (Below w.heap.size w (w.alloc (.cells #[.slice ap f.params.length cp,.int .i64 f.arrays,.int .i64 f.cells,.slice ab f.blocks.length cb] 25))):=h! ((Below.refl _ _).alloc (Nat.le_refl _) _)
 generalize (w.alloc (.cells #[.slice ap f.params.length cp,.int .i64 f.arrays,.int .i64 f.cells,.slice ab f.blocks.length cb] 25))=wv at *
 obtain ⟨lB1,cB1,fB1⟩:=B1.out
 go_wp2_with fail
 refine (loopsOpen (HV.out.below HW.out)).mono ?_
 rintro e w2 ⟨hb,⟨hc0,rfl⟩ | ⟨hc0,b,k,hF,hk,rfl⟩ | ⟨hc0,hF,bn,bs,bt,bg,lg,lcap,A1,A2,ap2,ab2,np,cp2,cb2,ar,ce,g,pv,ov,lv,O,I,a,c,S,rfl,hO,hD,hN,hT,hL,hS⟩⟩
 ·have hq:(checkF f != 0)=true:=by simpa using hc0
  have HC:=h! hc0
  obtain ⟨c0,hc⟩ : ∃ c0,c0=checkF f:=⟨_,rfl⟩
  rw [<-hc] at hq ⊢
  have HCC:=h! hc
  clear hc0 hc
  clear lB1 cB1 fB1
  replace B1:=h! (B1.out.later hb)
  replace HW:=h! (HW.out.trans (hb.mono HW.out.size))
  clear hb
  obtain ⟨lB1,cB1,fB1⟩:=B1.out
  go_wp2
  go_ret2
  exact ⟨HW.out,.inl ⟨fun h=>HC.out h.1,c0,⟨by rw [HCC.out];exact HC.out,.inl ⟨HC.out,HCC.out⟩⟩,rfl⟩⟩
 ·have hq:(k != 0)=true:=by simpa using hk
  have HC:Hid (¬ FaultR f 0 0/\k ≠ 0):=h! ⟨fun h=>hk (fault_one hF h).2,hk⟩
  have HK:Hid (ErrK f k):=h! (.inr ⟨hc0,b,hF⟩)
  clear hc0 hF hk
  clear lB1 cB1 fB1
  replace B1:=h! (B1.out.later hb)
  replace HW:=h! (HW.out.trans (hb.mono HW.out.size))
  clear hb
  obtain ⟨lB1,cB1,fB1⟩:=B1.out
  go_wp2
  go_ret2
  exact ⟨HW.out,.inl ⟨fun h=>HC.out.1 h.2,k,⟨HC.out.2,HK.out⟩,rfl⟩⟩
 ·have HC:=h! (And.intro hc0 hF)
  have HO:=h! hO
  have HL:Hid (LoopsV w2 (.slice a (loopsF f).length c) (loopsF f)):=h! (hL.reads fun _ _ _ h=>h.reads)
  obtain ⟨lB,cB,fB⟩:=hN.n
  obtain ⟨nl,hnl⟩ : ∃ nl,nl=(loopsF f).length:=⟨_,rfl⟩
  rw [<-hnl] at cB HL
  have HNL:=h! hnl
  clear hc0 hF hO hD hN hT hL hS hnl
  clear lB1 cB1 fB1
  replace B1:=h! (B1.out.later hb)
  replace HW:=h! (HW.out.trans (hb.mono HW.out.size))
  clear hb
  obtain ⟨lB1,cB1,fB1⟩:=B1.out
  go_wp2
  go_ret2
  refine ⟨HW.out,.inr ⟨HC.out.1,HC.out.2,a,c,O, ?_,HO.out,by rw [<-HNL.out];exact HL.out⟩⟩
  rw [<-HNL.out]
  rfl
theorem simplest_fault:FaultR simplest 0 0:=by
 refine .inr ⟨fun d hd => ?_,.inr ⟨fun d y hy => ?_,.inr ⟨fun v hv => ?_,rfl,rfl⟩⟩⟩
 ·have h1:d < 1:=hd
  obtain rfl:d=0:=by omega
  exact .zero (by decide)
 ·have h1:=(List.getElem?_eq_some_iff.1 hy).1
  have h2:d < 1:=h1
  obtain rfl:d=0:=by omega
  have h3:some (⟨[],[⟨1,0,[],5⟩],⟨3,0,[],0⟩⟩ : BlockD)=some y:=hy
  injection h3 with h3
  rw [<-h3];rfl
 ·have h9:∀ v ∈ uxF simplest,v.id=0/\v.blk=0/\v.pos=1:=by decide
  obtain ⟨h1,h2,h3⟩:=h9 v hv
  exact ⟨0,0,by rw [h1,entF_simplest];rfl,.inr ⟨by omega,.inl ⟨h2.symm,by omega⟩⟩⟩
def intsB (xs:List Int):Array Value:=(xs.map (Value.int .i64)).toArray
theorem intsB_at {xs:List Int} {b:Nat} {x:Int} (h:xs[b]? = some x):(intsB xs)[b]? = some (.int .i64 x):=by unfold intsB;simp [h]
theorem intsB_set (xs:List Int) (b:Nat) (x:Int):(intsB xs).setIfInBounds b (.int .i64 x)=intsB (xs.set b x):=by
 unfold intsB
 rw [List.setIfInBounds_toArray,List.map_set]
theorem ints_madeB (n:Nat):madeCells #[Value.int .i64 0] n=intsB (List.replicate n 0):=by
 unfold intsB;rw [List.map_replicate, <-toList_madeCells_one]
theorem intsB_ints {W:World} {b n:Nat} {xs:List Int} (h:Box W b (intsB xs)) (hn:xs.length=n) (hb:n <= 100000) (hx:∀ x ∈ xs,In64 x):Ints W (.slice (some ⟨b,0,none⟩) n n) xs:=by
 subst hn
 exact ⟨Row.of_box (n:=xs.length) (size:=1) h (by simp) (by omega),hx⟩
section
noncomputable def cntK (f:FuncD) (k b:Nat):Nat:=((loopsF f).take k).countP fun l=>l.blocks.contains b
theorem cntK_le (f:FuncD) (k b:Nat):cntK f k b <= k:=by
 unfold cntK
 exact Nat.le_trans List.countP_le_length (by rw [List.length_take];exact Nat.min_le_left _ _)
noncomputable def depK (f:FuncD) (k:Nat):List Int:=(List.range f.blocks.length).map fun b=>(cntK f k b:Int)
noncomputable def depthsF (f:FuncD):List Int:=depK f (loopsF f).length
noncomputable def depJ (f:FuncD) (k:Nat) (bs:List Nat) (j:Nat):List Int:=(List.range f.blocks.length).map fun b=>((cntK f k b+(if (bs.take j).contains b then 1 else 0):Nat):Int)
theorem depK_len (f:FuncD) (k:Nat):(depK f k).length=f.blocks.length:=by unfold depK;rw [List.length_map,List.length_range]
theorem depJ_len (f:FuncD) (k:Nat) (bs:List Nat) (j:Nat):(depJ f k bs j).length=f.blocks.length:=by unfold depJ;rw [List.length_map,List.length_range]
theorem depK_zero (f:FuncD):depK f 0=List.replicate f.blocks.length 0:=by
 unfold depK
 apply List.ext_getElem?
 intro k
 rw [List.getElem?_map,List.getElem?_replicate]
 by_cases h:k < f.blocks.length
 ·rw [if_pos h,List.getElem?_range h];rfl
 ·rw [if_neg h,List.getElem?_eq_none (by rw [List.length_range];omega)];rfl
theorem depJ_zero (f:FuncD) (k:Nat) (bs:List Nat):depJ f k bs 0=depK f k:=by
 unfold depJ depK
 congr 1
theorem depJ_all {f:FuncD} {k:Nat} {l:LoopD} (h:(loopsF f)[k]? = some l):depJ f k l.blocks l.blocks.length=depK f (k+1):=by
 unfold depJ depK
 congr 1
 funext b
 congr 1
 unfold cntK
 rw [List.take_length,take_snoc _ _ _ h,List.countP_append,List.countP_singleton]
theorem depJ_at {f:FuncD} {k j b:Nat} {bs:List Nat} (hb:bs[j]? = some b) (hd:bs.Nodup) (hl:b < f.blocks.length):(depJ f k bs j)[b]? = some (cntK f k b:Int):=by
 unfold depJ
 rw [List.getElem?_map,List.getElem?_range hl]
 have:¬ b ∈ bs.take j:=fun h=>by
  obtain ⟨i,hi⟩:=List.mem_iff_getElem?.1 h
  obtain ⟨h1,h2⟩:=List.getElem?_eq_some_iff.1 hi
  rw [List.length_take] at h1
  rw [List.getElem_take] at h2
  obtain ⟨h3,h4⟩:=List.getElem?_eq_some_iff.1 hb
  have:=(List.getElem_inj (h₀ := (by omega:i < bs.length)) (h₁ := h3) hd).1 (by rw [h2,h4])
  omega
 simp [this]
theorem depJ_next {f:FuncD} {k j b:Nat} {bs:List Nat} (hb:bs[j]? = some b) (hd:bs.Nodup) (hl:b < f.blocks.length):(depJ f k bs j).set b ((cntK f k b:Int)+1)=depJ f k bs (j+1):=by
 apply List.ext_getElem?
 intro q
 by_cases e:b=q
 ·subst e
  rw [List.getElem?_set_self (by rw [depJ_len];exact hl)]
  unfold depJ
  rw [List.getElem?_map,List.getElem?_range hl,take_snoc _ _ _ hb]
  simp
 ·rw [List.getElem?_set_ne e]
  unfold depJ
  rw [List.getElem?_map,List.getElem?_map,take_snoc _ _ _ hb]
  by_cases hq:q < f.blocks.length
  ·rw [List.getElem?_range hq]
   have:¬ q=b:=fun h=>e h.symm
   simp [this]
  ·rw [List.getElem?_eq_none (by rw [List.length_range];omega)];rfl
theorem depK_in {f:FuncD} {k:Nat} (hk:k <= 512):∀ x ∈ depK f k,In64 x:=fun x hx=>by
 unfold depK at hx
 obtain ⟨b, -,rfl⟩:=List.mem_map.1 hx
 have:=cntK_le f k b
 exact ⟨by omega,by omega⟩
theorem loopsF_in {f:FuncD} {k:Nat} {l:LoopD} (h:(loopsF f)[k]? = some l):l.blocks.Nodup/\(∀ b ∈ l.blocks,b < f.blocks.length)/\l.blocks.length <= f.blocks.length:=by
 obtain ⟨e,hh,_⟩:=loopsF_at h
 have eb:l.blocks=bodyN f l.head:=by rw [e];rfl
 obtain ⟨hlt,_⟩:=mem_headsN.1 (List.mem_of_getElem? hh)
 rw [eb]
 exact ⟨bodyN_nodup f l.head,fun b hb=>InL.lt hlt ((mem_bodyN hlt).1 hb),Nat.le_trans (List.length_filter_le _ _) (by rw [List.length_range];exact Nat.le_refl _)⟩
def DepR (f : FuncD) (w : World) (e : Ending) (w' : World) : Prop := Below w.heap.size w w' ∧
  ((¬ (checkF f = 0 ∧ FaultR f 0 0) ∧ ∃ k : Int, (k ≠ 0 ∧ ErrK f k) ∧ e = .returned (.tuple #[.slice none 0 0, .int .i64 k])) ∨
   (checkF f = 0 ∧ FaultR f 0 0 ∧ ∃ (g : Nat), e = .returned (.tuple #[.slice (some ⟨g, 0, none⟩) f.blocks.length f.blocks.length, .int .i64 0]) ∧ Ints w' (.slice (some ⟨g, 0, none⟩) f.blocks.length f.blocks.length) (depthsF f)))
set_option maxRecDepth 100000 in
theorem loopsDepths {w:World} {v:Value} {f:FuncD} (hv:FuncV w v f):Calls Tryz.prog 35 #[v] w (DepR f w):=by
 have HV:=h! hv
 obtain ⟨ap,cp,ab,cb,rfl, -, -, -,hbk⟩:=hv.form
 obtain ⟨nb,hnb⟩ : ∃ nb,nb=f.blocks.length:=⟨_,rfl⟩
 have HNB:=h! hnb
 rw [<-hnb] at HV
 rw [<-hnb]
 clear hv hbk hnb
 go_enter Tryz.func35,Tryz.ntmps35
 go_upto_region 1 with (fail)
 have B1:Hid (Box (w.alloc (.cells #[.slice ap f.params.length cp,.int .i64 f.arrays,.int .i64 f.cells,.slice ab nb cb] 25)) (w.heap.size) #[.slice ap f.params.length cp,.int .i64 f.arrays,.int .i64 f.cells,.slice ab nb cb]):=h! (by simpa using (Box.new w #[.slice ap f.params.length cp,.int .i64 f.arrays,.int .i64 f.cells,.slice ab nb cb] 25))
 have HW:Hid (Below w.heap.size w (w.alloc (.cells #[.slice ap f.params.length cp,.int .i64 f.arrays,.int .i64 f.cells,.slice ab nb cb] 25))):=h! ((Below.refl _ _).alloc (Nat.le_refl _) _)
 generalize (w.alloc (.cells #[.slice ap f.params.length cp,.int .i64 f.arrays,.int .i64 f.cells,.slice ab nb cb] 25))=wv at *
 obtain ⟨lB1,cB1,fB1⟩:=B1.out
 go_wp2_with fail
 refine (loopsOpen (HV.out.below HW.out)).mono ?_
 rintro e w2 ⟨hb,⟨hc0,rfl⟩ | ⟨hc0,b,k,hF,hk,rfl⟩ | ⟨hc0,hF,bn,bs,bt,bg,lg,lcap,A1,A2,ap2,ab2,np,cp2,cb2,ar,ce,g,pv,ov,lv,O,I,a,c,S,rfl,hO,hD,hN,hT,hL,hS⟩⟩
 ·have hq:(checkF f != 0)=true:=by simpa using hc0
  have HC:=h! hc0
  obtain ⟨c0,hc⟩ : ∃ c0,c0=checkF f:=⟨_,rfl⟩
  rw [<-hc] at hq ⊢
  have HCC:=h! hc
  clear hc0 hc
  clear lB1 cB1 fB1
  replace B1:=h! (B1.out.later hb)
  replace HW:=h! (HW.out.trans (hb.mono HW.out.size))
  clear hb
  obtain ⟨lB1,cB1,fB1⟩:=B1.out
  go_wp2
  go_ret2
  refine ⟨HW.out,.inl ⟨fun h=>HC.out h.1,c0,⟨by rw [HCC.out];exact HC.out,.inl ⟨HC.out,HCC.out⟩⟩,rfl⟩⟩
 ·have hq:(k != 0)=true:=by simpa using hk
  have HC:Hid (¬ FaultR f 0 0/\k ≠ 0):=h! ⟨fun h=>hk (fault_one hF h).2,hk⟩
  have HK:Hid (ErrK f k):=h! (.inr ⟨hc0,b,hF⟩)
  clear hc0 hF hk
  clear lB1 cB1 fB1
  replace B1:=h! (B1.out.later hb)
  replace HW:=h! (HW.out.trans (hb.mono HW.out.size))
  clear hb
  obtain ⟨lB1,cB1,fB1⟩:=B1.out
  go_wp2
  go_ret2
  exact ⟨HW.out,.inl ⟨fun h=>HC.out.1 h.2,k,⟨HC.out.2,HK.out⟩,rfl⟩⟩
 ·have HC:=h! (And.intro hc0 hF)
  obtain ⟨hn1,hn2⟩:=formB_nb (check_fine hc0).1
  rw [<-HNB.out] at hn1 hn2
  have hL2:LoopsV w2 (.slice a (loopsF f).length c) (loopsF f):=hL.reads fun _ _ _ h=>h.reads
  obtain ⟨a9,c9,b0,o0,he,hc1, -, -,ha,hx⟩:=loops_parts hL2
  injection he with e1 e2 e3
  subst e1
  subst e3
  have BN:=h! hN.n
  have hlen:=heads_le f
  obtain ⟨nl,hnl⟩ : ∃ nl,nl=(loopsF f).length:=⟨_,rfl⟩
  rw [<-hnl] at BN hlen hc1 ha
  have HNL:=h! hnl
  have HA:=h! ha
  have HX:=h! hx
  have hnl5:nl <= 512:=by have:=HNB.out;omega
  clear hc0 hF hO hD hN hT hL hS hnl hL2 ha hx e2
  clear lB1 cB1 fB1
  replace B1:=h! (B1.out.later hb)
  replace HW:=h! (HW.out.trans (hb.mono HW.out.size))
  clear hb
  obtain ⟨lB1,cB1,fB1⟩:=B1.out
  have gww:w.heap.size <= w2.heap.size:=HW.out.size
  obtain ⟨lB1,cB1,fB1⟩:=B1.out
  obtain ⟨lBN,cBN,fBN⟩:=BN.out
  have hmk:=run_make_row' (P:=Tryz.prog) 22 3 (.int .i64 0) 8 Tryz.underlying22 infoInt rfl .i64 .i64 nb (by omega) (by omega)
  go_upto_region 5 with (fail)
  have hwb:Hid (Below w2.heap.size w2 (w2.alloc (.cells (madeCells #[.int .i64 0] nb) 3))):=h! ((Below.refl _ _).alloc (Nat.le_refl _) _)
  have nBDB1:w2.heap.size ≠ w.heap.size:=fun e=>by have:=lB1;omega
  have nB1BD:w.heap.size ≠ w2.heap.size:=fun e=>nBDB1 e.symm
  have nBDBN:w2.heap.size ≠ bn:=fun e=>by have:=lBN;omega
  have nBNBD:bn ≠ w2.heap.size:=fun e=>nBDBN e.symm
  have B1_:Box (w2.alloc (.cells (madeCells #[.int .i64 0] nb) 3)) (w.heap.size) #[.slice ap f.params.length cp,.int .i64 f.arrays,.int .i64 f.cells,.slice ab nb cb]:=by simpa using (B1.out.alloc _)
  have BN_:Box (w2.alloc (.cells (madeCells #[.int .i64 0] nb) 3)) (bn) #[.pointer (some ⟨bs,0,none⟩),.slice a nl c]:=by simpa using (BN.out.alloc _)
  have BD_:Box (w2.alloc (.cells (madeCells #[.int .i64 0] nb) 3)) (w2.heap.size) (madeCells #[.int .i64 0] nb):=by first | exact (Box.new w2 (madeCells #[.int .i64 0] nb) 3) | simpa using (Box.new w2 (madeCells #[.int .i64 0] nb) 3)
  have HW_:Below w.heap.size w (w2.alloc (.cells (madeCells #[.int .i64 0] nb) 3)):=(HW.out.alloc (by first | exact Nat.le_refl _ | exact HW.out.size | (simp only [World.size_alloc,World.size_setCell];have:=HW.out.size;omega)) _)
  clear lB1 cB1 fB1 lBN cBN fBN
  clear B1 BN HW
  generalize (w2.alloc (.cells (madeCells #[.int .i64 0] nb) 3))=w3 at *
  have B1:=h! B1_
  clear B1_
  have BN:=h! BN_
  clear BN_
  have BD:=h! BD_
  clear BD_
  have HW:=h! HW_
  clear HW_
  obtain ⟨lB1,cB1,fB1⟩:=B1.out
  obtain ⟨lBN,cBN,fBN⟩:=BN.out
  obtain ⟨lBD,cBD,fBD⟩:=BD.out
  have H23:Hid (Below w2.heap.size w2 w3):=h! hwb.out
  rw [ints_madeB] at BD
  clear hmk hwb
  have gw3:w2.heap.size < w3.heap.size:=lBD
  go_wp2_with fail
  clear lB1 cB1 fB1 lBN cBN fBN lBD cBD fBD
  have B13:=B1
  have BN3:=BN
  have BD3:=BD
  have HW3:=HW
  clear B1 BN BD HW
  go_loopw [28] (fun iv wr => ∃ k:Nat,k <= nl/\iv = .int .i64 k/\Box wr w2.heap.size (intsB (depK f k))/\Off (fun q=>q=w2.heap.size) w3 wr) (fun iv _=>nl - (intOf iv).toNat)
  case atStart=>exact ⟨0,Nat.zero_le _,rfl,by rw [depK_zero, <-HNB.out];exact BD3.out,Off.refl _ _⟩
  case round =>
   obtain ⟨k,hk,rfl,hbd,ho⟩:=hrel
   have BD:=h! hbd
   have HO:=h! ho
   have HW2R:Hid (Below w2.heap.size w2 wr):=h! (H23.out.trans (ho.below H23.out.size (fun q _ hq=>by have h9:q=w2.heap.size:=hq;omega)))
   have HW:Hid (Below w.heap.size w wr):=h! (HW3.out.trans (ho.below HW3.out.size (fun q _ hq=>by have h9:q=w2.heap.size:=hq;omega)))
   clear hbd ho
   by_cases hlt:k < nl
   ·obtain ⟨rfl,hb0⟩:=HA.out (by omega)
    obtain ⟨l,hl⟩ : ∃ l,(loopsF f)[k]? = some l:=⟨_,List.getElem?_eq_getElem (by rw [<-HNL.out];exact hlt)⟩
    obtain ⟨a1,a2,a3,c1,c2,c3,hC⟩:=HX.out k l hl
    obtain ⟨k0,k1,k2,k3,k4,kb,kl,ke⟩:=hC.below HW2R.out hb0
    have HKB:=h! hC.blocks
    have HL:=h! hl
    obtain ⟨hnd,hlb,hll⟩:=loopsF_in hl
    have HND:=h! hnd
    have HLB:=h! hlb
    obtain ⟨n1,hn1⟩ : ∃ n1,n1=l.blocks.length:=⟨_,rfl⟩
    have HN1:=h! hn1
    rw [<-hn1, <-HNB.out] at hll
    rw [<-hn1] at k1 HKB
    clear kb kl ke hC hl hnd hlb hn1
    obtain ⟨lBD,cBD,fBD⟩:=BD.out
    go_upto_region 8 with (fail)
    have hal:Hid (Off (fun q=>q=w2.heap.size) wr (wr.alloc (.cells #[.int .i64 l.head,.slice a1 n1 c1,.slice a2 l.latches.length c2,.slice a3 l.exits.length c3,.int .i64 l.parent] 63))):=h! (Off.alloc _ _ _)
    have nBLBD:wr.heap.size ≠ w2.heap.size:=fun e=>by have:=lBD;omega
    have nBDBL:w2.heap.size ≠ wr.heap.size:=fun e=>nBLBD e.symm
    have BD_:Box (wr.alloc (.cells #[.int .i64 l.head,.slice a1 n1 c1,.slice a2 l.latches.length c2,.slice a3 l.exits.length c3,.int .i64 l.parent] 63)) (w2.heap.size) (intsB (depK f k)):=by first | exact (BD.out.alloc _) | simpa using (BD.out.alloc _)
    have BL_:Box (wr.alloc (.cells #[.int .i64 l.head,.slice a1 n1 c1,.slice a2 l.latches.length c2,.slice a3 l.exits.length c3,.int .i64 l.parent] 63)) (wr.heap.size) #[.int .i64 l.head,.slice a1 n1 c1,.slice a2 l.latches.length c2,.slice a3 l.exits.length c3,.int .i64 l.parent]:=by simpa using (Box.new wr #[.int .i64 l.head,.slice a1 n1 c1,.slice a2 l.latches.length c2,.slice a3 l.exits.length c3,.int .i64 l.parent] 63)
    have HW_:Below w.heap.size w (wr.alloc (.cells #[.int .i64 l.head,.slice a1 n1 c1,.slice a2 l.latches.length c2,.slice a3 l.exits.length c3,.int .i64 l.parent] 63)):=(HW.out.alloc (by first | exact Nat.le_refl _ | exact HW.out.size | (simp only [World.size_alloc,World.size_setCell];have:=HW.out.size;omega)) _)
    clear lBD cBD fBD
    clear BD HW
    generalize (wr.alloc (.cells #[.int .i64 l.head,.slice a1 n1 c1,.slice a2 l.latches.length c2,.slice a3 l.exits.length c3,.int .i64 l.parent] 63))=w5 at *
    have BD:=h! BD_
    clear BD_
    have BL:=h! BL_
    clear BL_
    have HW:=h! HW_
    clear HW_
    obtain ⟨lBD,cBD,fBD⟩:=BD.out
    obtain ⟨lBL,cBL,fBL⟩:=BL.out
    clear k0 k1 k2 k3 k4
    go_wp2_with fail
    clear lBD cBD fBD lBL cBL fBL
    have HO5:Hid (Off (fun q=>q=w2.heap.size) w3 w5):=h! (HO.out.trans hal.out)
    have BD5:=BD
    clear hal HO HW BD BL HW2R
    go_loopw [35] (fun iv wr => ∃ j:Nat,j <= n1/\iv = .int .i64 j/\Box wr w2.heap.size (intsB (depJ f k l.blocks j))/\Off (fun q=>q=w2.heap.size) w3 wr) (fun iv _=>n1 - (intOf iv).toNat)
    case atStart=>exact ⟨0,Nat.zero_le _,rfl,by rw [depJ_zero];exact BD5.out,HO5.out⟩
    case round =>
     obtain ⟨j,hj,rfl,hbd,ho⟩:=hrel
     have BD:=h! hbd
     have HO:=h! ho
     have HW2R:Hid (Below w2.heap.size w2 wr):=h! (H23.out.trans (ho.below H23.out.size (fun q _ hq=>by have h9:q=w2.heap.size:=hq;omega)))
     have HW:Hid (Below w.heap.size w wr):=h! (HW3.out.trans (ho.below HW3.out.size (fun q _ hq=>by have h9:q=w2.heap.size:=hq;omega)))
     clear hbd ho
     by_cases hjt:j < n1
     ·obtain ⟨p,hp⟩ : ∃ p,l.blocks[j]? = some p:=⟨_,List.getElem?_eq_getElem (by rw [<-HN1.out];exact hjt)⟩
      have hpn:=HLB.out p (List.mem_of_getElem? hp)
      have hdn:=depJ_next (f:=f) (k:=k) hp HND.out hpn
      have hda:=depJ_at (f:=f) (k:=k) hp HND.out hpn
      have hcl:=cntK_le f k p
      obtain ⟨ct,hct⟩ : ∃ ct,ct=cntK f k p:=⟨_,rfl⟩
      rw [<-hct] at hdn hda hcl
      rw [<-HNB.out] at hpn
      have HDN:=h! hdn
      obtain ⟨gb,go_,gc,he,hgl, -, -,hgx⟩:=ints_cells HKB.out (by rw [natI_len, <-HN1.out];omega)
      rw [natI_len, <-HN1.out] at he hgx
      injection he with x1 x2 x3
      subst x1
      subst x3
      have hpc:=(HW2R.out.cell (p:=⟨gb,go_+j,none⟩) hgl).trans (hgx j hjt)
      have hgv:(natI l.blocks).getD j 0=(p:Int):=by unfold natI;rw [List.getD_eq_getElem?_getD,List.getElem?_map,hp];rfl
      rw [hgv] at hpc
      have hfl:=intsB_at hda
      clear hgx hgv hp x2 hct hda hdn
      obtain ⟨lBD,cBD,fBD⟩:=BD.out
      go_upto_region 12 with (fail)
      have hst:Hid (Off (fun q=>q=w2.heap.size) wr (wr.setCell ⟨w2.heap.size,p,none⟩ (.int .i64 ((ct:Int)+1)))):=h! (Off.set wr ⟨w2.heap.size,p,none⟩ _)
      have BD_:Box (wr.setCell ⟨w2.heap.size,p,none⟩ (.int .i64 ((ct:Int)+1))) (w2.heap.size) (((intsB (depJ f k l.blocks j))).setIfInBounds p (.int .i64 ((ct:Int)+1))):=by first | exact (BD.out.set p (.int .i64 ((ct:Int)+1))) | simpa using (BD.out.set p (.int .i64 ((ct:Int)+1)))
      have HW_:Below w.heap.size w (wr.setCell ⟨w2.heap.size,p,none⟩ (.int .i64 ((ct:Int)+1))):=(HW.out.setCell (p:=⟨w2.heap.size,p,none⟩) (by first | assumption | omega | (dsimp only;omega) | (have:=HW.out.size;omega) | (simp;done) | (simp;omega)) (.int .i64 ((ct:Int)+1)))
      clear lBD cBD fBD
      clear BD HW
      generalize (wr.setCell ⟨w2.heap.size,p,none⟩ (.int .i64 ((ct:Int)+1)))=w6 at *
      have BD:=h! BD_
      clear BD_
      have HW:=h! HW_
      clear HW_
      obtain ⟨lBD,cBD,fBD⟩:=BD.out
      rw [intsB_set,HDN.out] at BD
      clear hfl hpc
      clear lBD cBD fBD
      go_wp2
      go_roundw
      case rel=>exact ⟨j+1,hjt,by go_num,BD.out,HO.out.trans hst.out⟩
      case measure=>simp [intOf];omega
     ·obtain rfl:n1=j:=by omega
      have HNX:Hid (Box wr w2.heap.size (intsB (depK f (k+1)))):=h! (by have h9:=BD.out;rw [HN1.out,depJ_all HL.out] at h9;exact h9)
      go_wp2
      go_roundw
      case rel=>exact ⟨k+1,hlt,by go_num,HNX.out,HO.out⟩
      case measure=>simp [intOf];omega
   ·obtain rfl:nl=k:=by omega
    have HNX:Hid (Ints wr (.slice (some ⟨w2.heap.size,0,none⟩) nb nb) (depthsF f)):=h! (intsB_ints (by unfold depthsF;rw [<-HNL.out];exact BD.out) (by unfold depthsF;rw [depK_len,HNB.out]) (by omega) (depK_in (by rw [<-HNL.out];exact hnl5)))
    go_wp2
    go_ret2
    refine ⟨HW.out,.inr ⟨HC.out.1,HC.out.2,w2.heap.size, ?_, ?_⟩⟩
    ·rw [<-HNB.out];rfl
    ·rw [<-HNB.out];exact HNX.out
theorem simplest_loops:loopsF simplest=[]:=by
 have h:headsN simplest=[]:=List.filter_eq_nil_iff.2 fun h hh=>by
  have h1:h < 1:=List.mem_range.1 hh
  obtain rfl:h=0:=by omega
  have h2:latN simplest 0=[]:=by
   unfold latN
   have:predN simplest simplest.blocks.length 0 0=[]:=by decide
   rw [this];rfl
  rw [h2];simp
 exact List.length_eq_zero_iff.1 (by rw [loopsF_len,h];rfl)
theorem awake9 {w:World}:Calls Tryz.prog 32 #[] w fun e w'=>e = .returned (.bool true)/\Below w.heap.size w w':=by
 go_enter Tryz.func32,Tryz.ntmps32
 go_wp2_with fail
 have B0:Hid (Box ((w.alloc (.cells #[.int .i64 1,.int .i64 0,.slice none 0 0,.int .i64 5] 87)).alloc (.cells #[.slice none 0 0,.slice (some ⟨w.heap.size,0,none⟩) 1 1,.int .i64 3,.int .i64 0,.slice none 0 0,.int .i64 0] 75)) (w.heap.size) #[.int .i64 1,.int .i64 0,.slice none 0 0,.int .i64 5]):=h! (by simpa using ((Box.new w #[.int .i64 1,.int .i64 0,.slice none 0 0,.int .i64 5] 87).alloc _))
 have B1:Hid (Box ((w.alloc (.cells #[.int .i64 1,.int .i64 0,.slice none 0 0,.int .i64 5] 87)).alloc (.cells #[.slice none 0 0,.slice (some ⟨w.heap.size,0,none⟩) 1 1,.int .i64 3,.int .i64 0,.slice none 0 0,.int .i64 0] 75)) (w.heap.size+1) #[.slice none 0 0,.slice (some ⟨w.heap.size,0,none⟩) 1 1,.int .i64 3,.int .i64 0,.slice none 0 0,.int .i64 0]):=h! (by simpa using (Box.new (w.alloc (.cells #[.int .i64 1,.int .i64 0,.slice none 0 0,.int .i64 5] 87)) #[.slice none 0 0,.slice (some ⟨w.heap.size,0,none⟩) 1 1,.int .i64 3,.int .i64 0,.slice none 0 0,.int .i64 0] 75))
 have HW:Hid (Below w.heap.size w ((w.alloc (.cells #[.int .i64 1,.int .i64 0,.slice none 0 0,.int .i64 5] 87)).alloc (.cells #[.slice none 0 0,.slice (some ⟨w.heap.size,0,none⟩) 1 1,.int .i64 3,.int .i64 0,.slice none 0 0,.int .i64 0] 75))):=h! (((Below.refl _ _).alloc (Nat.le_refl _) _).alloc (by simp) _)
 generalize ((w.alloc (.cells #[.int .i64 1,.int .i64 0,.slice none 0 0,.int .i64 5] 87)).alloc (.cells #[.slice none 0 0,.slice (some ⟨w.heap.size,0,none⟩) 1 1,.int .i64 3,.int .i64 0,.slice none 0 0,.int .i64 0] 75))=wv at *
 obtain ⟨lB0,cB0,fB0⟩:=B0.out
 obtain ⟨lB1,cB1,fB1⟩:=B1.out
 refine (loopsForest (simplest_val B0.out B1.out)).mono ?_
 rintro e w2 ⟨hb,⟨hn, -⟩ | ⟨-, -,a,c,O,rfl, -, -⟩⟩
 ·exact absurd ⟨simplest_ok.1,simplest_fault⟩ hn
 rw [simplest_loops]
 clear lB0 cB0 fB0 lB1 cB1 fB1
 replace B0:=h! (B0.out.later hb)
 replace B1:=h! (B1.out.later hb)
 replace HW:=h! (HW.out.trans (hb.mono HW.out.size))
 clear hb
 obtain ⟨lB0,cB0,fB0⟩:=B0.out
 obtain ⟨lB1,cB1,fB1⟩:=B1.out
 clear lB0 cB0 fB0 lB1 cB1 fB1
 go_wp2_with fail
 have hbA1:=(Below.refl w2.heap.size w2).alloc (Nat.le_refl _) (.cells #[.int .i64 1,.int .i64 0,.slice none 0 0,.int .i64 5] 87)
 have hbA:=hbA1.trans (((Below.refl _ _).alloc (Nat.le_refl _) (.cells #[.slice none 0 0,.slice (some ⟨w2.heap.size,0,none⟩) 1 1,.int .i64 3,.int .i64 0,.slice none 0 0,.int .i64 0] 75)).mono hbA1.size)
 have HV2:=simplest_val ((Box.new w2 #[.int .i64 1,.int .i64 0,.slice none 0 0,.int .i64 5] 87).alloc (.cells #[.slice none 0 0,.slice (some ⟨w2.heap.size,0,none⟩) 1 1,.int .i64 3,.int .i64 0,.slice none 0 0,.int .i64 0] 75)) (Box.new _ _ _)
 simp only [World.size_alloc] at HV2
 refine (loopsDepths HV2).mono ?_
 rintro e w3 ⟨hb,⟨hn, -⟩ | ⟨-, -,g,rfl, -⟩⟩
 ·exact absurd ⟨simplest_ok.1,simplest_fault⟩ hn
 have hb2:=hbA.trans (hb.mono hbA.size)
 replace HW:=h! (HW.out.trans (hb2.mono HW.out.size))
 have hl1:simplest.blocks.length=1:=rfl
 rw [hl1]
 clear hb hbA hbA1 HV2 hb2
 go_wp2
 go_ret
 exact ⟨rfl,HW.out⟩
end
end Go.Proofs.YtgmhnepmkaonaaaGreat
