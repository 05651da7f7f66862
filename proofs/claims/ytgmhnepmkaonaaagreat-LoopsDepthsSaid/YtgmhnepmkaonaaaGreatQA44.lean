/- Part 44. -/
import Derived.Laws.EntriesVeiled
import Derived.Test.YtgmhnepmkaonaaaGreatQA31
import Derived.Test.YtgmhnepmkaonaaaGreatQA39
import Derived.Test.YtgmhnepmkaonaaaGreatQA28
import Derived.Test.YtgmhnepmkaonaaaGreatQA19
import Derived.Test.YtgmhnepmkaonaaaGreatQA43
namespace Go.Proofs.YtgmhnepmkaonaaaGreat
private theorem h! {p : Prop} (h : p) : Go.RowKit.Hid p := Go.Lib.hid h
set_option maxHeartbeats 12800000
set_option linter.unusedSimpArgs false
set_option linter.unusedVariables false
open Go.RowKit
def LoopV (W:World) (cs:List Value) (l:LoopD):Prop := ∃ (a1 a2 a3:Option Addr) (c1 c2 c3:Nat),cs=[.int .i64 l.head,.slice a1 l.blocks.length c1,.slice a2 l.latches.length c2,.slice a3 l.exits.length c3,.int .i64 l.parent] /\
 Ints W (.slice a1 l.blocks.length c1) (natI l.blocks)/\Ints W (.slice a2 l.latches.length c2) (natI l.latches)/\Ints W (.slice a3 l.exits.length c3) (natI l.exits)
theorem LoopV.lasting:Lasting LoopV:=fun W W' cs l ⟨a1,a2,a3,c1,c2,c3,e,h1,h2,h3⟩ hb=>⟨a1,a2,a3,c1,c2,c3,e,h1.below hb,h2.below hb,h3.below hb⟩
structure OLoop (W:World) (S:Foot) (cs:List Value) (l:LoopD):Prop where
 ex:∃ (a1 a2 a3:Option Addr) (c1 c2 c3:Nat) (S1 S2 S3:Foot),cs=[.int .i64 l.head,.slice a1 l.blocks.length c1,.slice a2 l.latches.length c2,.slice a3 l.exits.length c3,.int .i64 l.parent] /\
  OInts W S1 (.slice a1 l.blocks.length c1) (natI l.blocks)/\OInts W S2 (.slice a2 l.latches.length c2) (natI l.latches)/\OInts W S3 (.slice a3 l.exits.length c3) (natI l.exits)/\(∀ k,S1 k -> S k)/\(∀ k,S2 k -> S k) /\ ∀ k,S3 k -> S k
 lt:∀ k,S k -> k < W.heap.size
theorem OLoop.nice:Nice OLoop where
 keep:=fun {W W' S cs x} h hk=>by
  obtain ⟨a1,a2,a3,c1,c2,c3,S1,S2,S3,e,h1,h2,h3,s1,s2,s3⟩:=h.ex
  refine ⟨⟨a1,a2,a3,c1,c2,c3,S1,S2,S3,e,h1.keep fun k hq=>hk k (s1 k hq),h2.keep fun k hq=>hk k (s2 k hq),h3.keep fun k hq=>hk k (s3 k hq),s1,s2,s3⟩,fun k hs => ?_⟩
  have h1:=hk k hs
  rw [Array.getElem?_eq_getElem (h.lt k hs)] at h1
  exact (Array.getElem?_eq_some_iff.1 h1).1
 lt:=fun h=>h.lt
 wide:=fun h hs hl=>by
  obtain ⟨a1,a2,a3,c1,c2,c3,S1,S2,S3,e,h1,h2,h3,s1,s2,s3⟩:=h.ex
  exact ⟨⟨a1,a2,a3,c1,c2,c3,S1,S2,S3,e,h1,h2,h3,fun k hq=>hs k (s1 k hq),fun k hq=>hs k (s2 k hq),fun k hq=>hs k (s3 k hq)⟩,hl⟩
theorem OLoop.reads {W:World} {S:Foot} {cs:List Value} {l:LoopD} (h:OLoop W S cs l):LoopV W cs l:=by
 obtain ⟨a1,a2,a3,c1,c2,c3,S1,S2,S3,e,h1,h2,h3, -⟩:=h.ex
 exact ⟨a1,a2,a3,c1,c2,c3,e,h1.ints,h2.ints,h3.ints⟩
abbrev OLoops:=OSl OLoop 63 5
abbrev LoopsV (W:World) (v:Value) (ls:List LoopD):Prop:=SliceOf LoopV 5 W v ls
theorem elLoop:Elem Tryz.prog 53 63 (.agg #[.int .i64 0,.slice none 0 0,.slice none 0 0,.slice none 0 0,.int .i64 0]) 5 88:=elem_of Tryz.underlying53 (by kernel_rfl) rfl (by omega)
structure LoopC (W:World) (b o:Nat) (l:LoopD) (a1 a2 a3:Option Addr) (c1 c2 c3:Nat):Prop where
 k0:W.cell? ⟨b,o,none⟩=some (.int .i64 l.head)
 k1:W.cell? ⟨b,o+1,none⟩=some (.slice a1 l.blocks.length c1)
 k2:W.cell? ⟨b,o+2,none⟩=some (.slice a2 l.latches.length c2)
 k3:W.cell? ⟨b,o+3,none⟩=some (.slice a3 l.exits.length c3)
 k4:W.cell? ⟨b,o+4,none⟩=some (.int .i64 l.parent)
 blocks:Ints W (.slice a1 l.blocks.length c1) (natI l.blocks)
 latches:Ints W (.slice a2 l.latches.length c2) (natI l.latches)
 exits:Ints W (.slice a3 l.exits.length c3) (natI l.exits)
theorem LoopC.below {W W' : World} {b o:Nat} {l:LoopD} {a1 a2 a3:Option Addr} {c1 c2 c3:Nat} (h:LoopC W b o l a1 a2 a3 c1 c2 c3) (hb:Below W.heap.size W W') (hl:b < W.heap.size):LoopC W' b o l a1 a2 a3 c1 c2 c3 :=
 ⟨(hb.cell hl).trans h.k0,(hb.cell hl).trans h.k1,(hb.cell hl).trans h.k2,(hb.cell hl).trans h.k3,(hb.cell hl).trans h.k4,h.blocks.below hb,h.latches.below hb,h.exits.below hb⟩
theorem loops_parts {W:World} {v:Value} {ls:List LoopD} (h:LoopsV W v ls):∃ a cap b off,v = .slice a ls.length cap/\ls.length <= cap/\cap <= 9223372036854775807/\ls.length <= 17592186044416/\(0 < ls.length -> a=some ⟨b,off,none⟩/\b < W.heap.size) /\
  ∀ j l,ls[j]? = some l -> ∃ a1 a2 a3 c1 c2 c3,LoopC W b (off+j * 5) l a1 a2 a3 c1 c2 c3:=by
 obtain ⟨a,cap,b,off,hv,h1,h2,h3,h4,h5⟩:=h.parts (by omega)
 refine ⟨a,cap,b,off,hv,h1,h2,h3,h4,fun j l hj => ?_⟩
 obtain ⟨ds,⟨a1,a2,a3,c1,c2,c3,rfl,k1,k2,k3⟩,_,hc⟩:=h5 j l hj
 exact ⟨a1,a2,a3,c1,c2,c3,hc 0 _ rfl,hc 1 _ rfl,hc 2 _ rfl,hc 3 _ rfl,hc 4 _ rfl,k1,k2,k3⟩
theorem loopIn {w:World} {hd pa b:Int} {a1 a2 a3:Option Addr} {n1 n2 n3 c1 c2 c3:Nat} {xs:List Int} (hv:Ints w (.slice a1 n1 c1) xs) (hs:xs.Pairwise (· < ·)) :
  Calls Tryz.prog 152 #[.agg #[.int .i64 hd,.slice a1 n1 c1,.slice a2 n2 c2,.slice a3 n3 c3,.int .i64 pa],.int .i64 b] w fun e w'=>e = .returned (.bool (xs.contains b))/\Below w.heap.size w w':=by
 have HV:=h! hv
 have HS:=h! hs
 clear hv hs
 go_enter Tryz.func152,Tryz.ntmps152
 go_upto_region 1 with (fail)
 have B2:Hid (Box (w.alloc (.cells #[.int .i64 hd,.slice a1 n1 c1,.slice a2 n2 c2,.slice a3 n3 c3,.int .i64 pa] 63)) (w.heap.size) #[.int .i64 hd,.slice a1 n1 c1,.slice a2 n2 c2,.slice a3 n3 c3,.int .i64 pa]):=h! (by simpa using (Box.new w #[.int .i64 hd,.slice a1 n1 c1,.slice a2 n2 c2,.slice a3 n3 c3,.int .i64 pa] 63))
 have HW:Hid (Below w.heap.size w (w.alloc (.cells #[.int .i64 hd,.slice a1 n1 c1,.slice a2 n2 c2,.slice a3 n3 c3,.int .i64 pa] 63))):=h! ((Below.refl _ _).alloc (Nat.le_refl _) _)
 generalize (w.alloc (.cells #[.int .i64 hd,.slice a1 n1 c1,.slice a2 n2 c2,.slice a3 n3 c3,.int .i64 pa] 63))=wv at *
 obtain ⟨lB2,cB2,fB2⟩:=B2.out
 go_wp2_with fail
 refine (binSearch (HV.out.below HW.out) HS.out).mono ?_
 rintro e w2 ⟨rfl,hb⟩
 obtain ⟨kn,hkn⟩ : ∃ kn,kn=xs.contains b:=⟨_,rfl⟩
 rw [<-hkn]
 have HK:=h! hkn
 obtain ⟨ci,hci⟩ : ∃ ci,ci=xs.countP (· < b):=⟨_,rfl⟩
 rw [<-hci]
 clear hkn hci
 clear lB2 cB2 fB2
 replace B2:=h! (B2.out.later hb)
 replace HW:=h! (HW.out.trans (hb.mono HW.out.size))
 clear hb
 obtain ⟨lB2,cB2,fB2⟩:=B2.out
 go_wp2
 go_ret
 rw [<-HK.out]
 exact ⟨rfl,HW.out⟩
theorem parentEnters:Enters Tryz.prog 151:=enters_of Tryz.func151 (by kernel_rfl) rfl
theorem parentFn {w:World} {bx:Nat} {hd pa b:Int} {a1 a2 a3:Option Addr} {n1 n2 n3 c1 c2 c3:Nat} {xs:List Int} (hB:Box w bx #[.int .i64 hd,.slice a1 n1 c1,.slice a2 n2 c2,.slice a3 n3 c3,.int .i64 pa]) (hv:Ints w (.slice a1 n1 c1) xs) (hs:xs.Pairwise (· < ·)) :
  Calls Tryz.prog 151 #[.int .i64 b,.pointer (some ⟨bx,0,none⟩)] w fun e w'=>e = .returned (.bool (!xs.contains b))/\Below w.heap.size w w':=by
 have HV:=h! hv
 have HS:=h! hs
 have B1:=h! hB
 have HW:Hid (Below w.heap.size w w):=h! (Below.refl _ _)
 clear hv hs hB
 go_enter Tryz.func151,Tryz.ntmps151
 obtain ⟨lB1,cB1,fB1⟩:=B1.out
 go_wp2_with fail
 refine (loopIn HV.out HS.out).mono ?_
 rintro e w2 ⟨rfl,hb⟩
 obtain ⟨kn,hkn⟩ : ∃ kn,kn=xs.contains b:=⟨_,rfl⟩
 rw [<-hkn]
 have HK:=h! hkn
 clear hkn
 clear lB1 cB1 fB1
 replace B1:=h! (B1.out.later hb)
 replace HW:=h! (HW.out.trans (hb.mono HW.out.size))
 clear hb
 obtain ⟨lB1,cB1,fB1⟩:=B1.out
 go_wp2
 go_ret
 rw [<-HK.out]
 exact ⟨rfl,HW.out⟩
theorem within_eq {ls:List LoopD} {i j:Nat} {a b:LoopD} (ha:ls[i]? = some a) (hb:ls[j]? = some b):withinB ls i j = !((natI a.blocks).any fun x => !(natI b.blocks).contains x):=by
 unfold withinB
 rw [ha,hb]
 unfold natI
 rw [List.any_map,Bool.eq_iff_iff]
 simp only [List.all_eq_true,Bool.not_eq_true',List.any_eq_false,Function.comp]
 constructor
 ·intro h x hx
  have h1:=h x hx
  have h2:=natI_has b.blocks x
  unfold natI at h2
  rw [h2,h1];simp
 ·intro h x hx
  have h1:=h x hx
  have h2:=natI_has b.blocks x
  unfold natI at h2
  rw [h2] at h1
  simpa using h1
theorem par_step {ls:List LoopD} {i j:Nat}:(List.range (j+1)).foldl (parStep ls i) (-1)=parStep ls i ((List.range j).foldl (parStep ls i) (-1)) j:=by
 rw [List.range_succ,List.foldl_append];rfl
set_option maxRecDepth 100000 in
theorem loopParent {w:World} {bn i:Nat} {A1 lsv:Value} {ls:List LoopD} (hB:Box w bn #[A1,lsv]) (hv:LoopsV w lsv ls) (hi:i < ls.length) (hr:∀ l ∈ ls,l.blocks.Pairwise (· < ·)) (hl:ls.length <= 512) (hbl:∀ l ∈ ls,l.blocks.length <= 512) :
  Calls Tryz.prog 112 #[.pointer (some ⟨bn,0,none⟩),.int .i64 i] w fun e w'=>e = .returned (.int .i64 (parentN ls i))/\Below w.heap.size w w':=by
 have hmf:∀ (fn:Fn) (first cap:Array Value) (w:World),(Instr.makeFunc fn first cap).run Tryz.prog w = .ok (.func fn first cap) w:=fun _ _ _ _=>rfl
 obtain ⟨a0,c0,b0,o0,rfl,hc1,hc2, -,ha,hx⟩:=loops_parts hv
 obtain ⟨rfl,hbl0⟩:=ha (by omega)
 obtain ⟨nl,hnl⟩ : ∃ nl,nl=ls.length:=⟨_,rfl⟩
 have HNL:=h! hnl
 rw [<-hnl] at hc1 hi hl hB
 have BN0:=h! hB
 have HX:=h! hx
 have HRR:=h! hr
 have HBL:=h! hbl
 have HPF:=h! (fun n (hn:n <= ls.length)=>parent_fold (ls:=ls) (i:=i) n hn)
 obtain ⟨li,hli⟩ : ∃ li,ls[i]? = some li:=⟨_,List.getElem?_eq_getElem (by rw [<-hnl];exact hi)⟩
 have HLI:=h! hli
 obtain ⟨i1,i2,i3,d1,d2,d3,hIC⟩:=hx i li hli
 have HIC:=h! hIC
 clear hv ha hx hnl hr hbl hli hIC hB
 obtain ⟨lB,cB,fB⟩:=BN0.out
 go_enter Tryz.func112,Tryz.ntmps112
 go_upto_region 2 with (fail)
 go_wp2_with fail
 clear lB cB fB
 go_loopw [5,14] (fun bv jv wr => ∃ j:Nat,j <= nl/\bv = .int .i64 ((List.range j).foldl (parStep ls i) (-1))/\jv = .int .i64 j/\Below w.heap.size w wr) (fun _ jv _=>nl - (intOf jv).toNat)
 case atStart=>exact ⟨0,Nat.zero_le _,rfl,rfl,Below.refl _ _⟩
 case round =>
  obtain ⟨j,hj,rfl,rfl,hb⟩:=hrel
  have HW:=h! hb
  have BN:=h! (BN0.out.later hb)
  clear hb
  have HPJ:=h! (HPF.out j (by rw [<-HNL.out];exact hj))
  obtain ⟨bst,hbst⟩ : ∃ bst,bst=(List.range j).foldl (parStep ls i) (-1):=⟨_,rfl⟩
  have HBS:=h! hbst
  rw [<-hbst]
  clear hbst
  obtain ⟨lBN,cBN,fBN⟩:=BN.out
  by_cases hlt:j < nl
  ·obtain ⟨lj,hlj⟩ : ∃ lj,ls[j]? = some lj:=⟨_,List.getElem?_eq_getElem (by rw [<-HNL.out];exact hlt)⟩
   obtain ⟨a1,a2,a3,c1,c2,c3,hC⟩:=HX.out j lj hlj
   have HLJ:=h! hlj
   obtain ⟨k0,k1,k2,k3,k4,kb,kl,ke⟩:=hC.below HW.out hbl0
   have HKB:=h! hC.blocks
   clear kb kl ke hC hlj
   go_upto_region 5 with (fail)
   have nBJBN:wr.heap.size ≠ bn:=fun e=>by have:=lBN;omega
   have nBNBJ:bn ≠ wr.heap.size:=fun e=>nBJBN e.symm
   have BN_:Box (wr.alloc (.cells #[.int .i64 lj.head,.slice a1 lj.blocks.length c1,.slice a2 lj.latches.length c2,.slice a3 lj.exits.length c3,.int .i64 lj.parent] 63)) (bn) #[A1,.slice (some ⟨b0,o0,none⟩) nl c0]:=by simpa using (BN.out.alloc _)
   have BJ_:Box (wr.alloc (.cells #[.int .i64 lj.head,.slice a1 lj.blocks.length c1,.slice a2 lj.latches.length c2,.slice a3 lj.exits.length c3,.int .i64 lj.parent] 63)) (wr.heap.size) #[.int .i64 lj.head,.slice a1 lj.blocks.length c1,.slice a2 lj.latches.length c2,.slice a3 lj.exits.length c3,.int .i64 lj.parent]:=by simpa using (Box.new wr #[.int .i64 lj.head,.slice a1 lj.blocks.length c1,.slice a2 lj.latches.length c2,.slice a3 lj.exits.length c3,.int .i64 lj.parent] 63)
   have HW_:Below w.heap.size w (wr.alloc (.cells #[.int .i64 lj.head,.slice a1 lj.blocks.length c1,.slice a2 lj.latches.length c2,.slice a3 lj.exits.length c3,.int .i64 lj.parent] 63)):=(HW.out.alloc (by first | exact Nat.le_refl _ | exact HW.out.size | (simp only [World.size_alloc,World.size_setCell];have:=HW.out.size;omega)) _)
   clear lBN cBN fBN
   clear BN HW
   generalize (wr.alloc (.cells #[.int .i64 lj.head,.slice a1 lj.blocks.length c1,.slice a2 lj.latches.length c2,.slice a3 lj.exits.length c3,.int .i64 lj.parent] 63))=w2 at *
   have BN:=h! BN_
   clear BN_
   have BJ:=h! BJ_
   clear BJ_
   have HW:=h! HW_
   clear HW_
   obtain ⟨lBN,cBN,fBN⟩:=BN.out
   obtain ⟨lBJ,cBJ,fBJ⟩:=BJ.out
   clear k0 k1 k2 k3 k4
   obtain ⟨wi,hwi⟩ : ∃ wi,wi=withinB ls i j:=⟨_,rfl⟩
   have HWI:=h! hwi
   obtain ⟨n1,hn1⟩ : ∃ n1,n1=lj.blocks.length:=⟨_,rfl⟩
   have HN1:=h! hn1
   rw [<-hn1] at BJ HKB cBJ
   have hn1b:n1 <= 512:=by rw [hn1];exact HBL.out lj (List.mem_of_getElem? HLJ.out)
   clear hwi hn1
   have same:parStep ls i bst j=bst -> Hid ((List.range (j+1)).foldl (parStep ls i) (-1)=bst):=fun h=>h! (by rw [par_step, <-HBS.out,h])
   have take:parStep ls i bst j=j -> Hid ((List.range (j+1)).foldl (parStep ls i) (-1)=j):=fun h=>h! (by rw [par_step, <-HBS.out,h])
   have HSAME:=h! same
   have HTAKE:=h! take
   clear same take
   by_cases hji:j=i
   ·have HNX:=HSAME.out (by unfold parStep;rw [if_neg (fun h=>h.1 hji)])
    subst hji
    go_upto_region 6 with (fail)
    go_quiet (fail)
    clear lBN cBN fBN lBJ cBJ fBJ
    go_wp2
    go_roundw
    case rel=>exact ⟨j+1,hlt,by rw [HNX.out],by go_num,below_drewN HW.out nq⟩
    case measure=>simp [intOf];omega
   ·have q1:((j:Int) != (i:Int))=true:=by simp;omega
    have hI:=HIC.out.below HW.out hbl0
    have hik:=hI.k1
    have HIB:=h! hI.blocks
    have HPA:Hid (∀ W:World,Below w2.heap.size w2 W -> ∀ b:Int,Calls Tryz.prog 151 (#[.int .i64 b] ++ #[.pointer (some ⟨wr.heap.size,0,none⟩)]) W fun e W'=>e = .returned (.bool (!(natI lj.blocks).contains b))/\Below W.heap.size W W'):=h! (fun W hW b=>parentFn (BJ.out.later hW) (HKB.out.below (HW.out.trans (hW.mono HW.out.size))) (natI_rise (HRR.out lj (List.mem_of_getElem? HLJ.out))))
    clear hI
    go_wp2_with fail
    clear hik
    refine (contFunI parentEnters (fun b => !(natI lj.blocks).contains b) HIB.out (fun W x _ hW=>HPA.out W hW x)).mono ?_
    rintro e w3 ⟨rfl,hb⟩
    have hwe:=within_eq HLI.out HLJ.out
    rw [<-HWI.out] at hwe
    obtain ⟨an,han⟩ : ∃ an,an=(natI li.blocks).any (fun x => !(natI lj.blocks).contains x):=⟨_,rfl⟩
    rw [<-han] at hwe ⊢
    have HWE:=h! hwe
    clear han hwe HIB HPA
    clear lBN cBN fBN lBJ cBJ fBJ
    replace BN:=h! (BN.out.later hb)
    replace BJ:=h! (BJ.out.later hb)
    replace HW:=h! (HW.out.trans (hb.mono HW.out.size))
    clear hb
    obtain ⟨lBN,cBN,fBN⟩:=BN.out
    obtain ⟨lBJ,cBJ,fBJ⟩:=BJ.out
    cases an
    ·have hw1:wi=true:=HWE.out
     go_upto_region 6 with (fail)
     clear q1
     have hbr:=HPJ.out
     rw [<-HBS.out] at hbr
     by_cases hneg:bst < 0
     ·have ht:decide (bst < 0)=true:=by simpa using hneg
      have HNX:=HTAKE.out (by unfold parStep;rw [if_pos ⟨hji,by rw [<-HWI.out];exact hw1,.inl hneg⟩])
      go_quiet (fail)
      clear ht
      clear lBN cBN fBN lBJ cBJ fBJ
      go_wp2
      go_roundw
      case rel=>exact ⟨j+1,hlt,by rw [HNX.out],by go_num,below_drewN HW.out nq⟩
      case measure=>simp [intOf];omega
     ·have ht:decide (bst < 0)=false:=by simpa using hneg
      obtain ⟨b2,hb2⟩ : ∃ b2:Nat,bst=b2:=⟨bst.toNat,by omega⟩
      have hb2j:b2 < j:=by rcases hbr with h | h;omega;omega
      obtain ⟨lq,hlq⟩ : ∃ lq,ls[b2]? = some lq:=⟨_,List.getElem?_eq_getElem (by rw [<-HNL.out];omega)⟩
      obtain ⟨p1,p2,p3,e1,e2,e3,hQ⟩:=HX.out b2 lq hlq
      have hqk:=(hQ.below HW.out hbl0).k1
      have hql:lq.blocks.length <= 512:=HBL.out lq (List.mem_of_getElem? hlq)
      obtain ⟨n2,hn2⟩ : ∃ n2,n2=lq.blocks.length:=⟨_,rfl⟩
      rw [<-hn2] at hqk hql
      have hs1:sizeL ls j=n1:=by unfold sizeL;rw [HLJ.out];exact HN1.out.symm
      have hs2:sizeL ls b2=n2:=by unfold sizeL;rw [hlq];exact hn2.symm
      have hb2n:b2 < nl:=by omega
      have HB2:=h! hb2
      by_cases hless:n1 < n2
      ·have HNX:=HTAKE.out (by unfold parStep;rw [if_pos ⟨hji,by rw [<-HWI.out];exact hw1,.inr (by rw [hb2,Int.toNat_natCast,hs1,hs2];exact hless)⟩])
       clear hbr hQ hlq hn2 hs1 hs2 hw1 hneg
       subst hb2
       go_quiet (fail)
       clear ht hqk
       clear lBN cBN fBN lBJ cBJ fBJ
       go_wp2
       go_roundw
       case rel=>exact ⟨j+1,hlt,by rw [HNX.out],by go_num,below_drewN HW.out nq⟩
       case measure=>simp [intOf];omega
      ·have HNX:=HSAME.out (by unfold parStep;rw [if_neg (fun h=>h.2.2.elim hneg (fun h=>hless (by rw [hb2,Int.toNat_natCast,hs1,hs2] at h;exact h)))])
       clear hbr hQ hlq hn2 hs1 hs2 hw1 hneg
       subst hb2
       go_quiet (fail)
       clear ht hqk
       clear lBN cBN fBN lBJ cBJ fBJ
       go_wp2
       go_roundw
       case rel=>exact ⟨j+1,hlt,by rw [HNX.out],by go_num,below_drewN HW.out nq⟩
       case measure=>simp [intOf];omega
    ·have hw1:wi=false:=HWE.out
     have HNX:=HSAME.out (by unfold parStep;rw [if_neg (fun h=>by have h9:=h.2.1;rw [<-HWI.out,hw1] at h9;cases h9)])
     clear hw1
     go_upto_region 6 with (fail)
     clear q1
     go_quiet (fail)
     clear lBN cBN fBN lBJ cBJ fBJ
     go_wp2
     go_roundw
     case rel=>exact ⟨j+1,hlt,by rw [HNX.out],by go_num,below_drewN HW.out nq⟩
     case measure=>simp [intOf];omega
  ·obtain rfl:nl=j:=by omega
   have HE:Hid (bst=parentN ls i):=h! (by rw [HBS.out];unfold parentN;rw [<-HNL.out])
   go_wp2
   go_ret
   exact ⟨by rw [HE.out];rfl,HW.out⟩
theorem gives_osnoc {α : Type} {R:World -> Foot -> List Value -> α -> Prop} (hR:Nice R) {P:Program} {w:World} {o:Oper} {a:Act} (s x:Operand) (t e:TypeId)
  (ho:o.op = .call { callee:=.builtin .append,args:=#[s,x],argTypes:=#[t,t] }) {z:Value} {size bytes:Nat} (he:Elem P t e z size bytes)
  {v:Value} {B:Nat} {ds:List Value} (hs:a.eval s=v) (hx:a.eval x = .slice (some ⟨B,0,none⟩) 1 1) {bs:List Nat} {base:Nat} {S Fn:Foot} {xs:List α} {y : α} {n:Nat} (hn:xs.length=n)
  (H:Holds bs base w S (fun W=>OSl R e size W S v xs)) (hB:Box w B ds.toArray) (hds:ds.length=size) (hel:R w Fn ds y) (hF:Fn.off S) (hFb:Fresh base Fn) (hbs:∀ b ∈ bs,b < base) (hbase:base <= w.heap.size)
  (h1:∀ u ∈ ds,u.oneCell' = true) (hlen:n+1 <= 17592186044416) (hbytes:(n+1) * bytes <= 140737488355328) {XF:Nat -> Foot} {i lim:Nat} (hFl:∀ k,Fn k -> lim <= k) (hl:lim <= w.heap.size) (hX:∀ k,S k -> XF i k) :
  ∃ u w'',(execOp a.eval o).run P w = .ok (.value u) w'' /\ (∃ S',Holds bs base w'' S' (fun W=>OSl R e size W S' u (xs ++ [y]))/\(∀ k,S' k -> S k \/ lim <= k) /\ ∃ g cap,u = .slice (some ⟨g,0,none⟩) (n+1) cap)/\Four.Step XF (fun _=>True) i w w'':=by
 obtain ⟨v',w',S',q0,q1,q2,q3,q4⟩:=exec_osnoc hR s x t e ho he hs hx hn H hB hds hel hF hFb hbs hbase h1 hlen hbytes
 refine ⟨v',w',q0,⟨S',q1,fun k hk => ?_,q4⟩,q3.mono fun k _ hk=>hX k hk,fun h=>h⟩
 rcases q2 k hk with h | h | h
 ·exact .inl h
 ·exact .inr (hFl k h)
 ·exact .inr (by omega)
theorem OLoops.par {W:World} {S:Foot} {v:Value} {ls:List LoopD} (h:OLoops W S v ls) {i:Nat} {l:LoopD} (hl:ls[i]? = some l) :
  ∃ ga cap,v = .slice (some ⟨ga,0,none⟩) ls.length cap/\ls.length <= cap/\S ga/\ga < W.heap.size/\W.cell? ⟨ga,i * 5+4,none⟩=some (.int .i64 l.parent)/\(∀ o,W.frozen? ⟨ga,o,none⟩=false) /\
   ∀ p:Int,OLoops (W.setCell ⟨ga,i * 5+4,none⟩ (.int .i64 p)) S v (ls.set i { l with parent:=p }):=by
 obtain ⟨cs,G,F,hp⟩:=h
 have hil:=(List.getElem?_eq_some_iff.1 hl).1
 obtain ⟨ga,cap,hv,hG,hcap, -,hgl,hcell,hfr⟩:=hp.row.addr (by omega)
 have hel:=hp.el i l hl
 obtain ⟨a1,a2,a3,c1,c2,c3,S1,S2,S3,hch,h1,h2,h3,s1,s2,s3⟩:=hel.ex
 have h4:cs[i * 5+4]? = some (.int .i64 l.parent):=by
  have:=chunk_at (cs:=cs) (size:=5) (j:=i) (i:=4) (by omega)
  rw [hch] at this
  simpa using this.symm
 refine ⟨ga,cap,hv,hcap,hp.inG _ hG,hgl,hcell _ _ h4,hfr,fun p => ?_⟩
 have hoff:=Off.set W ⟨ga,i * 5+4,none⟩ (.int .i64 p)
 have hFi:∀ k,F i k -> k ≠ ga:=fun k hk e=>hp.free i hil k hk (by rw [e];exact hG)
 have hnew:OLoop (W.setCell ⟨ga,i * 5+4,none⟩ (.int .i64 p)) (F i) (chunk (cs.set (i * 5+4) (.int .i64 p)) 5 i) { l with parent:=p }:=by
  refine ⟨⟨a1,a2,a3,c1,c2,c3,S1,S2,S3, ?_,h1.off hoff (fun k hk e=>hFi k (s1 k hk) e),h2.off hoff (fun k hk e=>hFi k (s2 k hk) e),h3.off hoff (fun k hk e=>hFi k (s3 k hk) e),s1,s2,s3⟩,fun k hk=>by simpa [World.setCell] using hel.lt k hk⟩
  rw [chunk_set_self (by omega),hch];rfl
 exact ⟨_,G,_,hp.put OLoop.nice hl _ (Fj:=F i) (hoff.mono fun k _ hk=>by cases hk;exact .inl hG) (hp.row.set hv (by omega) (i * 5+4) _) (fun q hq hne=>chunk_set hne (by omega)) hnew (fun k hk=>.inl hk) S (fun k hk=>hk) (fun k hk=>hp.inF i k hil hk) (fun k hk=>by simpa [World.setCell] using hp.lt k hk)⟩
noncomputable def headsJ (f:FuncD) (j:Nat):List Nat:=(List.range j).filter fun h => !(latN f h).isEmpty
theorem headsJ_all (f:FuncD):headsJ f f.blocks.length=headsN f:=rfl
theorem headsJ_old {f:FuncD} {j:Nat} (h:latN f j=[]):headsJ f (j+1)=headsJ f j:=by
 unfold headsJ
 rw [List.range_succ,List.filter_append]
 simp [h]
theorem headsJ_new {f:FuncD} {j:Nat} (h:latN f j ≠ []):headsJ f (j+1)=headsJ f j ++ [j]:=by
 unfold headsJ
 rw [List.range_succ,List.filter_append]
 congr 1
 simp [h]
theorem headsJ_len (f:FuncD) (j:Nat):(headsJ f j).length <= j:=by
 unfold headsJ
 exact Nat.le_trans (List.length_filter_le _ _) (by rw [List.length_range];exact Nat.le_refl _)
noncomputable def parL (f:FuncD) (i:Nat):List LoopD:=(loops0 f).mapIdx fun k l=>if k < i then { l with parent:=parentN (loops0 f) k } else l
theorem parL_zero (f:FuncD):parL f 0=loops0 f:=by
 unfold parL
 apply List.ext_getElem?
 intro k
 rw [List.getElem?_mapIdx]
 cases (loops0 f)[k]? <;> simp
theorem parL_len (f:FuncD) (i:Nat):(parL f i).length=(headsN f).length:=by unfold parL;rw [List.length_mapIdx,loops0_len]
theorem parL_all (f:FuncD):parL f (headsN f).length=loopsF f:=by
 unfold parL loopsF
 apply List.ext_getElem?
 intro k
 rw [List.getElem?_mapIdx,List.getElem?_mapIdx]
 cases h:(loops0 f)[k]? with
 | none=>rfl
 | some l =>
  have:=(List.getElem?_eq_some_iff.1 h).1
  rw [loops0_len] at this
  simp [this]
theorem parL_next {f:FuncD} {i:Nat} {l:LoopD} (h:(parL f i)[i]? = some l):(parL f i).set i { l with parent:=parentN (loops0 f) i } = parL f (i+1):=by
 unfold parL at h ⊢
 rw [List.getElem?_mapIdx] at h
 apply List.ext_getElem?
 intro k
 rw [List.getElem?_set,List.getElem?_mapIdx,List.getElem?_mapIdx,List.length_mapIdx]
 cases h0:(loops0 f)[i]? with
 | none=>rw [h0] at h;cases h
 | some l0 =>
  rw [h0] at h
  simp at h
  subst h
  have hi:=(List.getElem?_eq_some_iff.1 h0).1
  by_cases e:i=k
  ·subst e
   rw [if_pos rfl,if_pos hi,h0]
   simp
  ·rw [if_neg e]
   cases hk:(loops0 f)[k]? with
   | none=>rfl
   | some lk =>
    simp only [Option.map_some]
    by_cases e2:k < i
    ·rw [if_pos e2,if_pos (by omega)]
    ·rw [if_neg e2,if_neg (by omega)]
theorem parL_blocks {f:FuncD} {i k:Nat}:((parL f i)[k]?).map (·.blocks)=((loops0 f)[k]?).map (·.blocks):=by
 unfold parL
 rw [List.getElem?_mapIdx]
 cases (loops0 f)[k]? with
 | none=>rfl
 | some l =>
  simp only [Option.map_some]
  split <;> rfl
theorem within_same {ls ms:List LoopD} (h:∀ k:Nat,(ls[k]?).map (·.blocks)=(ms[k]?).map (·.blocks)) (i j:Nat):withinB ls i j=withinB ms i j:=by
 have hi:=h i
 have hj:=h j
 unfold withinB
 cases a:ls[i]? <;> cases b:ms[i]? <;> rw [a,b] at hi <;> simp at hi <;> try rfl
 cases c:ls[j]? <;> cases d:ms[j]? <;> rw [c,d] at hj <;> simp at hj <;> try rfl
 simp only [hi,hj]
theorem size_same {ls ms:List LoopD} (h:∀ k:Nat,(ls[k]?).map (·.blocks)=(ms[k]?).map (·.blocks)) (j:Nat):sizeL ls j=sizeL ms j:=by
 have hj:=h j
 unfold sizeL
 cases c:ls[j]? <;> cases d:ms[j]? <;> rw [c,d] at hj <;> simp at hj <;> try rfl
 simp only [hj]
theorem parent_same {ls ms:List LoopD} (hl:ls.length=ms.length) (h:∀ k:Nat,(ls[k]?).map (·.blocks)=(ms[k]?).map (·.blocks)) (i:Nat):parentN ls i=parentN ms i:=by
 unfold parentN
 rw [hl]
 congr 1
 funext best j
 unfold parStep
 rw [within_same h,size_same h,size_same h]
theorem parentN_par (f:FuncD) (i k:Nat):parentN (parL f i) k=parentN (loops0 f) k:=parent_same (by rw [parL_len,loops0_len]) (fun _=>parL_blocks) k
theorem loops_rise {f:FuncD} {i:Nat}:∀ l ∈ parL f i,l.blocks.Pairwise (· < ·)/\l.blocks.length <= f.blocks.length:=fun l hl=>by
 obtain ⟨k,hk⟩:=List.mem_iff_getElem?.1 hl
 have h1:=parL_blocks (f:=f) (i:=i) (k:=k)
 rw [hk] at h1
 cases h0:(loops0 f)[k]? with
 | none=>rw [h0] at h1;simp at h1
 | some l0 =>
  rw [h0] at h1
  simp at h1
  obtain ⟨e, -⟩:=loops0_at h0
  have hb:l0.blocks=bodyN f l0.head:=by rw [e];rfl
  rw [h1,hb]
  refine ⟨List.Pairwise.filter _ List.pairwise_lt_range,Nat.le_trans (List.length_filter_le _ _) (by rw [List.length_range];exact Nat.le_refl _)⟩
def LOpenR (f : FuncD) (w : World) (e : Ending) (w' : World) : Prop := Below w.heap.size w w' ∧
  ((checkF f ≠ 0 ∧ e = .returned (.tuple #[.pointer none, .int .i64 (checkF f)])) ∨
   (checkF f = 0 ∧ ∃ b k : Int, FaultR f b k ∧ k ≠ 0 ∧ e = .returned (.tuple #[.pointer none, .int .i64 k])) ∨
   (checkF f = 0 ∧ FaultR f 0 0 ∧ ∃ (bn bs bt bg lg lcap : Nat) (A1 A2 : Value) (ap ab : Option Addr) (np cp cb : Nat) (ar ce : Int) (g : Array Value) (pv ov lv : Value) (O : List Nat) (I : Nat → Option Nat) (a : Option Addr) (c : Nat) (S : Foot),
     e = .returned (.tuple #[.pointer (some ⟨bn, 0, none⟩), .int .i64 0]) ∧ IsOrder f O ∧ DomI f O I ∧ NestV f w' bn bs bt bg lg lcap A1 A2 (.slice a (loopsF f).length c) ap ab np cp cb ar ce pv ov lv ∧ TreeM f w' bt bg lg lcap g pv ov lv O I ∧
     OLoops w' S (.slice a (loopsF f).length c) (loopsF f) ∧ Fresh w.heap.size S))
theorem StrM.nest {f:FuncD} {W:World} {bn bs bt bg lg lcap bm tm np cp cb:Nat} {ap ab:Option Addr} {ar ce:Int} {pv ov lv lsv:Value} {O:List Nat} {I:Nat -> Option Nat} (h:StrM f W bs bt bg lg lcap bm #[.slice ap np cp,.int .i64 ar,.int .i64 ce,.slice ab f.blocks.length cb] pv ov lv (.map (some tm)) O I)
  (hB:Box W bn #[.pointer (some ⟨bs,0,none⟩),lsv]) (hb:SliceOf BlockR 6 W (.slice ab f.blocks.length cb) f.blocks):NestV f W bn bs bt bg lg lcap (.map (some tm)) (.map (some bm)) lsv ap ab np cp cb ar ce pv ov lv :=
 ⟨hB,h.s,h.t.tree,by simpa using h.t.graph,h.t.preds,hb⟩
end Go.Proofs.YtgmhnepmkaonaaaGreat
