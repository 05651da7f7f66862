/- Part 51. -/
import Derived.Test.YtcmflfkpeodicaaGreatIRA50
import Derived.Test.YtcmflfkpeodicaaGreatIRA41
namespace Go.Proofs.YtcmflfkpeodicaaGreat
set_option linter.all false
open Go.RowKit
private theorem fG.alloc {w0 W:World} (h:fG w0 W) (o:Obj):fG w0 (W.alloc o):=h.later ((Below.refl _ _).alloc (aF _) o)
def aHS (f:FuncD) (v:Value) (w:World) (e:Ending) (w' : World):Prop :=
 Below w.heap.size w w' /\ ((eL f ≠ 0/\e = .returned (.tuple #[.pointer none,.int .i64 0,.int .i64 (eL f)])) \/
  (eL f=0 /\ ∃ b k:Int,fM f b k/\k ≠ 0/\e = .returned (.tuple #[.pointer none,.int .i64 b,.int .i64 k])) \/
  (eL f=0/\fM f 0 0 /\ ∃ (bs bt bg lg lcap bm tm:Nat) (g:Array Value) (pv ov lv:Value) (O:List Nat) (I:Nat -> Option Nat),e = .returned (.tuple #[.pointer (some ⟨bs,0,none⟩),.int .i64 0,.int .i64 0])/\v = .agg g/\gL f O/\DomI f O I /\
   StrM f w' bs bt bg lg lcap bm g pv ov lv (.map (some tm)) O I/\IMap w' tm (encT (eR f))))
theorem vR {α : Type} {x : α}:∀ {xs:List α},x ∈ xs -> ∃ k,xs[k]? = some x/\x ∉ xs.take k
 | y :: xs,h=>by
  by_cases e:y=x
  ·exact ⟨0,by rw [e];rfl,by simp⟩
  rcases bM.1 h with h | h
  ·exact absurd h.symm e
  obtain ⟨k,h1,h2⟩:=vR h
  refine ⟨k+1,by simpa using h1, ?_⟩
  rw [aK,bM]
  rintro (h3 | h3)
  ·exact e h3.symm
  exact h2 h3
theorem sS {α : Type} {P : α -> Prop}:∀ {xs:List α},(¬ ∀ x ∈ xs,P x) -> ∃ i u,xs[i]? = some u /\ ¬ P u /\ ∀ v ∈ xs.take i,P v
 | [],h=>absurd (by simp) h
 | y :: xs,h=>by
  by_cases e:P y
  ·obtain ⟨i,u,h1,h2,h3⟩:=sS (xs:=xs) (P:=P) (fun h2=>h fun x hx=>by
    rcases bM.1 hx with rfl | hx
    ·exact e
    ·exact h2 x hx)
   refine ⟨i+1,u,by simpa using h1,h2,fun v hv => ?_⟩
   rw [aK,bM] at hv
   rcases hv with rfl | hv
   ·exact e
   ·exact h3 v hv
  exact ⟨0,y,rfl,e,by simp⟩
theorem yA {f:FuncD} {O:List Nat} (hO:gL f O) (h:(-1:Int) ∈ gX f.blocks.length O O.length):∃ c:Nat,c < f.blocks.length /\ ¬ Way (toB f) (-1) c/\(∀ d,d < c -> Way (toB f) (-1) d)/\idxI (gX f.blocks.length O O.length) (-1)=c:=by
 obtain ⟨k,h1,h2⟩:=vR h
 have hk:=(aE.1 h1).1
 rw [fL] at hk
 refine ⟨k,hk,fun hw => ?_,fun d hd => ?_,zS h1 h2⟩
 ·have:=pH (O:=O) hk ((hO.facts.2.1 k).2 hw)
  rw [h1] at this
  injection this with this
  omega
 refine Classical.byContradiction fun hno=>h2 ?_
 have h3:=sU (O:=O) (by omega:d < f.blocks.length) (fun hm=>hno ((hO.facts.2.1 d).1 hm))
 refine aG (i:=d) ?_
 rw [bE,if_pos hd];exact h3
theorem aFQ {x:BlockD} {k:Nat} {u:UseD} (hu:u ∈ uxB (x,k)):u.blk=(k:Int):=by
 unfold uxB at hu
 rw [bV] at hu
 rcases aO.1 hu with hu | hu
 ·rw [bK] at hu
  obtain ⟨p,hp,hu⟩:=hu
  unfold uxP at hu
  rw [aY] at hu
  obtain ⟨vs,hvs,rfl⟩:=hu
  rfl
 rcases aO.1 hu with hu | hu
 ·rw [bK] at hu
  obtain ⟨yk,hy,hu⟩:=hu
  unfold uxI at hu
  rw [aY] at hu
  obtain ⟨a,ha,rfl⟩:=hu
  rfl
 unfold uxT at hu
 split at hu
 ·simp at hu
  subst hu
  rfl
 split at hu
 ·simp at hu
  subst hu
  rfl
 simp at hu
theorem aA9 {f:FuncD} {k:Nat} {x:BlockD} (hx:f.blocks[k]? = some x) (hok:∀ (d:Nat) (y:BlockD),d < k -> f.blocks[d]? = some y -> ∀ u ∈ uxB (y,d),gI f u) (hno:¬ ∀ u ∈ uxB (x,k),gI f u) :
  ∃ (i:Nat) (u:UseD),(uxF f)[i]? = some u /\ ¬ gI f u/\(∀ v ∈ (uxF f).take i,gI f v)/\(k:Int)=u.blk/\(6:Int)=6:=by
 obtain ⟨i,u,h1,h2,h3⟩:=sS hno
 have hz:f.blocks.zipIdx[k]? = some (x,k):=by rw [cN,hx];simp
 have hsp:f.blocks.zipIdx=f.blocks.zipIdx.take k ++ (x,k) :: f.blocks.zipIdx.drop (k+1):=by
  have h4:=cV k f.blocks.zipIdx
  rw [List.drop_eq_getElem_cons (aE.1 hz).1,(aE.1 hz).2] at h4
  exact h4.symm
 have hu:uxF f=(f.blocks.zipIdx.take k).flatMap uxB ++ (uxB (x,k) ++ (f.blocks.zipIdx.drop (k+1)).flatMap uxB):=by
  unfold uxF
  conv=>lhs;rw [hsp]
  rw [List.flatMap_append,cG]
 have hil:=(aE.1 h1).1
 refine ⟨((f.blocks.zipIdx.take k).flatMap uxB).length+i,u, ?_,h2,fun v hv => ?_,(aFQ (aG h1)).symm,rfl⟩
 ·rw [hu,cI (by omega),Nat.add_sub_cancel_left,dE hil];exact h1
 ·rw [hu,List.take_length_add_append,aO] at hv
  rcases hv with hv | hv
  ·rw [bK] at hv
   obtain ⟨⟨y,d⟩,hy,hv⟩:=hv
   obtain ⟨q,hq⟩:=bJ.1 hy
   rw [bE] at hq
   split at hq
   ·rename_i hqk
    rw [cN] at hq
    cases hb:f.blocks[q]? with
    | none=>rw [hb] at hq;cases hq
    | some z =>
     rw [hb] at hq
     simp at hq
     obtain ⟨rfl,rfl⟩:=hq
     exact hok q z hqk hb v hv
   cases hq
  rw [List.take_append_of_le_length (by omega)] at hv
  exact h3 v hv
set_option maxHeartbeats 25600000 in
set_option maxRecDepth 100000 in
theorem aIK {w:World} {v:Value} {f:FuncD} (hv:gG w v f):Calls Tryz.prog 37 #[v] w (aHS f v w):=by
 have HV:=h! hv
 obtain ⟨ap,cp,ab,cb,rfl,hp,ha,hc,hB⟩:=hv.form
 obtain ⟨np,hnp⟩ : ∃ np,np=f.params.length:=⟨_,rfl⟩
 obtain ⟨ar,har⟩ : ∃ ar,ar=f.arrays:=⟨_,rfl⟩
 obtain ⟨ce,hce⟩ : ∃ ce,ce=f.cells:=⟨_,rfl⟩
 obtain ⟨nb,hnb⟩ : ∃ nb,nb=f.blocks.length:=⟨_,rfl⟩
 have HNB:=h! hnb
 have hbl:=hB.le
 rw [<-hnb] at hbl
 rw [<-hnb, <-hnp, <-har, <-hce] at HV
 rw [<-hnb] at hB
 rw [<-hnb, <-hnp, <-har, <-hce]
 have HBS:=h! hB
 clear hp ha hc hB hv hnp har hce hnb
 go_enter Tryz.func37,Tryz.ntmps37
 go_upto_region 1 with (fail)
 have hA_:=(Below.refl w.heap.size w).alloc (aF _) (.cells #[.slice ap np cp,.int .i64 ar,.int .i64 ce,.slice ab nb cb] 25)
 have HW:=h! hA_
 clear hA_
 have B1:=h! (Box.new w #[.slice ap np cp,.int .i64 ar,.int .i64 ce,.slice ab nb cb] 25)
 generalize w.alloc (.cells #[.slice ap np cp,.int .i64 ar,.int .i64 ce,.slice ab nb cb] 25)=wv at *
 obtain ⟨lB1,cB1,fB1⟩:=B1.out
 go_wp2_with fail
 refine (aFN (HV.out.below HW.out)).mono ?_
 rintro e w2 ⟨hb,⟨hc0,rfl⟩ | ⟨hc0,bt,bg,lg,lcap,g,pv,ov,lv,O,I,rfl,hvg,hO,hT,hD⟩⟩
 ·have hc1:(eL f != 0)=true:=by simpa using hc0
  have HC0:=h! hc0
  clear hc0
  clear lB1 cB1 fB1
  replace B1:=h! (B1.out.later hb)
  replace HW:=h! (HW.out.trans (hb.mono HW.out.size))
  clear hb
  obtain ⟨lB1,cB1,fB1⟩:=B1.out
  go_wp2
  go_ret3
  exact ⟨HW.out,.inl ⟨HC0.out,rfl⟩⟩
 have HC0:=h! hc0
 have HO:=h! hO
 have HD:=h! hD
 have HVG:=h! hvg
 have HT:=h! hT
 obtain ⟨S2,hS2⟩ : ∃ S2,S2=w2:=⟨_,rfl⟩
 rw [<-hS2] at HT
 have HS:Hid (fG S2 w2):=h! (by rw [hS2];exact Below.refl _ _)
 clear hO hD hT hvg hc0 hS2
 clear lB1 cB1 fB1
 replace B1:=h! (B1.out.later hb)
 replace HW:=h! (HW.out.trans (hb.mono HW.out.size))
 clear hb
 obtain ⟨lB1,cB1,fB1⟩:=B1.out
 go_wp2_with fail
 refine (aC4 (HV.out.below HW.out)).mono ?_
 rintro e w3 ⟨hb,m,rfl,hm, -⟩
 rw [HC0.out]
 obtain ⟨tm,rfl,hTM, -⟩:=hm HC0.out
 have HTM:=h! hTM
 clear hm hTM
 clear lB1 cB1 fB1
 replace B1:=h! (B1.out.later hb)
 replace HS:=h! (HS.out.later hb)
 replace HW:=h! (HW.out.trans (hb.mono HW.out.size))
 clear hb
 obtain ⟨lB1,cB1,fB1⟩:=B1.out
 go_wp2_with fail
 refine (wZ (HV.out.below HW.out)).mono ?_
 rintro e w4 ⟨bm,rfl,hmp, -,hb⟩
 have HMP:=h! hmp
 clear hmp
 clear lB1 cB1 fB1
 replace B1:=h! (B1.out.later hb)
 replace HS:=h! (HS.out.later hb)
 replace HTM:=h! (HTM.out.later hb)
 replace HW:=h! (HW.out.trans (hb.mono HW.out.size))
 clear hb
 obtain ⟨lB1,cB1,fB1⟩:=B1.out
 go_upto_region 6 with (fail)
 have nBSB1:w4.heap.size ≠ w.heap.size:=fun e=>by have:=lB1;omega
 have nB1BS:w.heap.size ≠ w4.heap.size:=fun e=>nBSB1 e.symm
 clear lB1 cB1 fB1
 have hA_:=(Below.refl w4.heap.size w4).alloc (aF _) (.cells #[.pointer (some ⟨bt,0,none⟩),.map (some tm),.map (some bm)] 92)
 replace B1:=h! (B1.out.later hA_)
 replace HS:=h! (HS.out.later hA_)
 replace HTM:=h! (HTM.out.later hA_)
 replace HMP:=h! (HMP.out.later hA_)
 replace HW:=h! (HW.out.trans (hA_.mono HW.out.size))
 clear hA_
 have BS:=h! (Box.new w4 #[.pointer (some ⟨bt,0,none⟩),.map (some tm),.map (some bm)] 92)
 generalize w4.alloc (.cells #[.pointer (some ⟨bt,0,none⟩),.map (some tm),.map (some bm)] 92)=w5 at *
 obtain ⟨lB1,cB1,fB1⟩:=B1.out
 obtain ⟨lBS,cBS,fBS⟩:=BS.out
 have HSG:Hid (StrM f w5 w4.heap.size bt bg lg lcap bm g pv ov lv (.map (some tm)) O I):=h! ⟨BS.out,HT.out.later HS.out,HMP.out⟩
 obtain ⟨bs,hbs⟩ : ∃ bs,bs=w4.heap.size:=⟨_,rfl⟩
 simp only [<-hbs] at *
 clear hbs
 obtain ⟨-, -, -, -,d6⟩:=HSG.out.t.cells
 have d0:=HSG.out.t.cells.1
 go_wp2_with fail
 refine (oJ (x := -1) (HSG.out.t.place)).mono ?_
 rintro e w6 ⟨rfl,rfl⟩
 clear d0 d6
 have HLT:Hid (∀ c,c < nb -> (c ∈ O ↔ Way (toB f) (-1) c)):=h! (fun c _=>(HO.out.facts.2.1 c))
 by_cases hdead:(-1:Int) ∈ gX f.blocks.length O O.length
 ·obtain ⟨c,hcn,hc1,hc2,hc3⟩:=yA HO.out hdead
  have HFA:Hid (fM f c 4):=h! (.inl ⟨c,hcn,hc1,hc2,rfl,rfl⟩)
  rw [hc3]
  clear hdead hc1 hc2 hc3
  go_wp2
  go_ret3
  exact ⟨HW.out,.inr (.inl ⟨HC0.out,_,_,HFA.out,by decide,rfl⟩)⟩
 have HALL:Hid (∀ d,d < f.blocks.length -> Way (toB f) (-1) d):=h! (by
  intro d hd
  refine Classical.byContradiction fun hno=>hdead ?_
  have h1:d ∉ O:=fun h=>hno ((HO.out.facts.2.1 d).1 h)
  have h2:=sU (O:=O) hd h1
  exact aG h2)
 rw [zT hdead]
 clear hdead
 go_wp2_with fail
 go_loopw [49] (fun i wr => ∃ j:Nat,j <= nb/\i = .int .i64 j/\(∀ (d:Nat) (y:BlockD),d < j -> f.blocks[d]? = some y -> y.phis.all (fJ (natI (fO f f.blocks.length 0 d)))=true)/\Below w.heap.size w wr/\Box wr w.heap.size #[.slice ap np cp,.int .i64 ar,.int .i64 ce,.slice ab nb cb]/\StrM f wr bs bt bg lg lcap bm g pv ov lv (.map (some tm)) O I/\IMap wr tm (encT (eR f))) (fun i _=>nb - (intOf i).toNat)
 case atStart=>exact ⟨0,by omega,rfl,(fun d y hd=>by omega),HW.out,B1.out,HSG.out,HTM.out⟩
 obtain ⟨j,hj,rfl,hok,hW,hB1,hS,hT⟩:=hrel
 clear lBS cBS fBS BS
 clear lB1 cB1 fB1
 have HOK:=h! hok
 replace HW:=h! hW
 replace B1:=h! hB1
 replace HSG:=h! hS
 replace HTM:=h! hT
 clear hW hB1 hS hT HS HMP hok HT
 generalize wr=w7 at *
 obtain ⟨lB1,cB1,fB1⟩:=B1.out
 by_cases hlt:j < nb
 ·obtain ⟨x,hx⟩ : ∃ x,f.blocks[j]? = some x:=⟨_,aB (by rw [<-HNB.out];exact hlt)⟩
  have HX:=h! hx
  have HPG:=h! (fun (hS:StrM f w7 bs bt bg lg lcap bm g pv ov lv (.map (some tm)) O I)=>aHZ (c:=j) (x:=x) (ap:=ap) (ab:=ab) (np:=np) (cp:=cp) (cb:=cb) (ar:=ar) (ce:=ce) (w:=w7) (by rw [<-HNB.out];have h9:=HVG.out;injection h9 with h9;rw [h9];exact hS) (by rw [<-HNB.out];exact HBS.out.below gF.lasting HW.out) HC0.out hx)
  clear hx
  go_wp2_with fail
  refine (HPG.out HSG.out).mono ?_
  rintro e w8 ⟨rfl,hb⟩
  obtain ⟨r,hr⟩ : ∃ r,r=x.phis.all (fJ (natI (fO f f.blocks.length 0 j))):=⟨_,rfl⟩
  rw [<-hr]
  have HR:=h! hr
  clear hr HPG
  clear lB1 cB1 fB1
  replace B1:=h! (B1.out.later hb)
  replace HSG:=h! (HSG.out.later hb)
  replace HTM:=h! (HTM.out.later hb)
  replace HW:=h! (HW.out.trans (hb.mono HW.out.size))
  clear hb
  obtain ⟨lB1,cB1,fB1⟩:=B1.out
  cases r
  ·have HFA:Hid (fM f j 5):=h! (.inr ⟨HALL.out,.inl ⟨j,x,HX.out,HR.out.symm,HOK.out,rfl,rfl⟩⟩)
   go_wp2
   go_ret3
   exact ⟨HW.out,.inr (.inl ⟨HC0.out,_,_,HFA.out,by decide,rfl⟩)⟩
  have HNX:Hid (∀ (d:Nat) (y:BlockD),d < j+1 -> f.blocks[d]? = some y -> y.phis.all (fJ (natI (fO f f.blocks.length 0 d)))=true):=h! (fun d y hd hy=>by
   by_cases e:d=j
   ·subst e
    have h1:=HX.out
    rw [hy] at h1
    cases h1
    exact HR.out.symm
   exact HOK.out d y (by omega) hy)
  go_wp2
  go_roundw
  case rel=>exact ⟨j+1,hlt,by go_num,HNX.out,HW.out,B1.out,HSG.out,HTM.out⟩
  simp [intOf];omega
 have HPA:Hid (∀ (d:Nat) (y:BlockD),f.blocks[d]? = some y -> y.phis.all (fJ (natI (fO f f.blocks.length 0 d)))=true):=h! (fun d y hy=>HOK.out d y (by have:=(aE.1 hy).1;have:=HNB.out;omega) hy)
 clear HOK
 go_wp2_with fail
 go_loopw [61] (fun i wr => ∃ j:Nat,j <= nb/\i = .int .i64 j/\(∀ (d:Nat) (y:BlockD),d < j -> f.blocks[d]? = some y -> ∀ u ∈ uxB (y,d),gI f u)/\Below w.heap.size w wr/\Box wr w.heap.size #[.slice ap np cp,.int .i64 ar,.int .i64 ce,.slice ab nb cb]/\StrM f wr bs bt bg lg lcap bm g pv ov lv (.map (some tm)) O I/\IMap wr tm (encT (eR f))) (fun i _=>nb - (intOf i).toNat)
 case atStart=>exact ⟨0,by omega,rfl,(fun d y hd=>by omega),HW.out,B1.out,HSG.out,HTM.out⟩
 obtain ⟨k,hk,rfl,hok,hW,hB1,hS,hT⟩:=hrel
 clear lB1 cB1 fB1
 have HOK:=h! hok
 replace HW:=h! hW
 replace B1:=h! hB1
 replace HSG:=h! hS
 replace HTM:=h! hT
 clear hW hB1 hS hT hok
 generalize wr=w9 at *
 obtain ⟨lB1,cB1,fB1⟩:=B1.out
 by_cases hltk:k < nb
 ·obtain ⟨x,hx⟩ : ∃ x,f.blocks[k]? = some x:=⟨_,aB (by rw [<-HNB.out];exact hltk)⟩
  have HX:=h! hx
  have HUG:=h! (fun (hS:StrM f w9 bs bt bg lg lcap bm g pv ov lv (.map (some tm)) O I)=>aIC (c:=k) (x:=x) (ap:=ap) (ab:=ab) (np:=np) (cp:=cp) (cb:=cb) (ar:=ar) (ce:=ce) (w:=w9) (by rw [<-HNB.out];have h9:=HVG.out;injection h9 with h9;rw [h9];exact hS) (by rw [<-HNB.out];exact HBS.out.below gF.lasting HW.out) HO.out HD.out HC0.out hx)
  clear hx
  go_wp2_with fail
  refine (HUG.out HSG.out).mono ?_
  rintro e w10 ⟨r,rfl,hr,hb⟩
  have HR:=h! hr
  clear hr HUG
  clear lB1 cB1 fB1
  replace B1:=h! (B1.out.later hb)
  replace HSG:=h! (HSG.out.later hb)
  replace HTM:=h! (HTM.out.later hb)
  replace HW:=h! (HW.out.trans (hb.mono HW.out.size))
  clear hb
  obtain ⟨lB1,cB1,fB1⟩:=B1.out
  cases r
  ·have HFA:Hid (fM f k 6):=h! (.inr ⟨HALL.out,.inr ⟨HPA.out,.inl (aA9 HX.out HOK.out (fun h=>by have:=HR.out.2 h;cases this))⟩⟩)
   go_wp2
   go_ret3
   exact ⟨HW.out,.inr (.inl ⟨HC0.out,_,_,HFA.out,by decide,rfl⟩)⟩
  have HNX:Hid (∀ (d:Nat) (y:BlockD),d < k+1 -> f.blocks[d]? = some y -> ∀ u ∈ uxB (y,d),gI f u):=h! (fun d y hd hy=>by
   by_cases e:d=k
   ·subst e
    have h1:=HX.out
    rw [hy] at h1
    cases h1
    exact HR.out.1 rfl
   exact HOK.out d y (by omega) hy)
  go_wp2
  go_roundw
  case rel=>exact ⟨k+1,hltk,by go_num,HNX.out,HW.out,B1.out,HSG.out,HTM.out⟩
  simp [intOf];omega
 have HFA:Hid (fM f 0 0):=h! (.inr ⟨HALL.out,.inr ⟨HPA.out,.inr ⟨fun u hu=>by
   unfold uxF at hu
   rw [bK] at hu
   obtain ⟨⟨y,d⟩,hy,hu⟩:=hu
   rw [bS] at hy
   exact HOK.out d y (by have:=(aE.1 hy).1;have:=HNB.out;simp only at *;omega) hy u hu,rfl,rfl⟩⟩⟩)
 go_wp2
 go_ret3
 exact ⟨HW.out,.inr (.inr ⟨HC0.out,HFA.out,bs,bt,bg,lg,lcap,bm,tm,g,pv,ov,lv,O,I,rfl,HVG.out,HO.out,HD.out,HSG.out,HTM.out⟩)⟩
theorem pG {P:Nat -> Prop} {c d:Nat} (h1:P c) (h2:∀ i,i < c -> ¬ P i) (k1:P d) (k2:∀ i,i < d -> ¬ P i):c=d:=by
 rcases Nat.lt_trichotomy c d with h | h | h
 ·exact absurd h1 (k2 c h)
 ·exact h
 exact absurd k1 (h2 d h)
theorem sT {f:FuncD} {b k b' k' : Int} (h:fM f b k) (h' : fM f b' k'):b=b' /\ k=k':=by
 rcases h with ⟨c,hc,hn,hl,rfl,rfl⟩ | ⟨hall,h⟩
 ·rcases h' with ⟨c',hc',hn',hl',rfl,rfl⟩ | ⟨hall', -⟩
  ·have:=pG (P:=fun c => ¬ Way (toB f) (-1) c) hn (fun i hi h=>h (hl i hi)) hn' (fun i hi h=>h (hl' i hi))
   subst this
   exact ⟨rfl,rfl⟩
  exact absurd (hall' c hc) hn
 rcases h' with ⟨c',hc',hn',hl',rfl,rfl⟩ | ⟨hall',h'⟩
 ·exact absurd (hall c' hc') hn'
 rcases h with ⟨c,x,hx,hn,hl,rfl,rfl⟩ | ⟨hp,h⟩
 ·rcases h' with ⟨c',x',hx',hn',hl',rfl,rfl⟩ | ⟨hp', -⟩
  ·have:=pG (P:=fun c => ∃ x,f.blocks[c]? = some x/\x.phis.all (fJ (natI (fO f f.blocks.length 0 c)))=false) ⟨x,hx,hn⟩ (fun i hi ⟨y,hy,h⟩=>by rw [hl i y hi hy] at h;cases h) ⟨x',hx',hn'⟩ (fun i hi ⟨y,hy,h⟩=>by rw [hl' i y hi hy] at h;cases h)
   subst this
   exact ⟨rfl,rfl⟩
  have:=hp' c x hx
  rw [hn] at this;cases this
 rcases h' with ⟨c',x',hx',hn',hl',rfl,rfl⟩ | ⟨hp',h'⟩
 ·have:=hp c' x' hx'
  rw [hn'] at this;cases this
 rcases h with ⟨i,u,hu,hn,hl,rfl,rfl⟩ | ⟨ha,rfl,rfl⟩
 ·rcases h' with ⟨i',u',hu',hn',hl',rfl,rfl⟩ | ⟨ha',rfl,rfl⟩
  ·have:=pG (P:=fun i => ∃ u,(uxF f)[i]? = some u /\ ¬ gI f u) ⟨u,hu,hn⟩ (fun j hj ⟨y,hy,h⟩=>h (hl y (aG (i:=j) (by rw [bE,if_pos hj];exact hy)))) ⟨u',hu',hn'⟩ (fun j hj ⟨y,hy,h⟩=>h (hl' y (aG (i:=j) (by rw [bE,if_pos hj];exact hy))))
   subst this
   rw [hu] at hu'
   cases hu'
   exact ⟨rfl,rfl⟩
  exact absurd (ha' u (aG hu)) hn
 rcases h' with ⟨i',u',hu',hn',hl',rfl,rfl⟩ | ⟨ha',rfl,rfl⟩
 ·exact absurd (ha u' (aG hu')) hn'
 exact ⟨rfl,rfl⟩
theorem lY {W:World} {g n:Nat} (h:W.heap[g]? = some (.cells (List.replicate n (Value.int .i64 0)).toArray 3 (0,0))) (hn:n <= 100000):eM W (Foot.one g) (.slice (some ⟨g,0,none⟩) n n) (List.replicate n 0):=by
 have hlt:=(aS.1 h).1
 refine ⟨⟨by simp,by simp;omega,fun k hk=>by cases hk;exact hlt,.inr ⟨g,n,_,by simp,rfl,h,by simp,by unfold maxLen;omega,by simp,by simp⟩⟩,fun x hx => ?_⟩
 rw [bX hx];exact ⟨by omega,by omega⟩
def OffF (D:Foot) (w0 W:World):Prop:=Off D w0 W
theorem OffF.later {D:Foot} {w0 W W' : World} (h:OffF D w0 W) (hb:Below W.heap.size W W'):OffF D w0 W':=Off.trans h (Off.of_below hb D)
theorem OffF.alloc {D:Foot} {w0 W:World} (h:OffF D w0 W) (o:Obj):OffF D w0 (W.alloc o):=Off.trans h (Off.alloc D W o)
theorem OffF.other {D:Foot} {w0 W:World} (h:OffF D w0 W) {p:Addr} (v:Value) (hp:D p.block \/ w0.heap.size <= p.block):OffF D w0 (W.setCell p v) :=
 Off.grow h (Off.set W p v) (fun q hq=>by cases hq;exact hp)
end Go.Proofs.YtcmflfkpeodicaaGreat
