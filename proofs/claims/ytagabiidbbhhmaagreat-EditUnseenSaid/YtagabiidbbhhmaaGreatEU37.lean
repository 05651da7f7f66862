/- Part 37. -/
import Derived.Test.YtagabiidbbhhmaaGreatEU35
import Derived.Test.YtagabiidbbhhmaaGreatEU36
namespace Go.Proofs.YtagabiidbbhhmaaGreat
set_option maxHeartbeats 25600000
set_option linter.all false
open Go.RowKit
private theorem fN.alloc {w0 W:World} (h:fN w0 W) (o:Obj):fN w0 (W.alloc o):=h.later ((Below.refl _ _).alloc (aC _) o)
def aF9 (f:FuncD) (v:Value) (w:World) (e:Ending) (w' : World):Prop :=
 Below w.heap.size w w' /\ ((eV f ≠ 0/\e = .returned (.tuple #[.pointer none,.int .i64 0,.int .i64 (eV f)])) \/
  (eV f=0 /\ ∃ b k:Int,gD f b k/\k ≠ 0/\e = .returned (.tuple #[.pointer none,.int .i64 b,.int .i64 k])) \/
  (eV f=0/\gD f 0 0 /\ ∃ (bs bt bg lg lcap bm tm:Nat) (g:Array Value) (pv ov lv:Value) (O:List Nat) (I:Nat -> Option Nat),e = .returned (.tuple #[.pointer (some ⟨bs,0,none⟩),.int .i64 0,.int .i64 0])/\v = .agg g/\fT f O/\DomI f O I /\
   StrM f w' bs bt bg lg lcap bm g pv ov lv (.map (some tm)) O I/\IMap w' tm (encT (fC f))))
theorem vE {α : Type} {x : α}:∀ {xs:List α},x ∈ xs -> ∃ k,xs[k]? = some x/\x ∉ xs.take k
 | y :: xs,h=>by
  by_cases e:y=x
  ·exact ⟨0,by rw [e];rfl,by simp⟩
  rcases bR.1 h with h | h
  ·exact absurd h.symm e
  obtain ⟨k,h1,h2⟩:=vE h
  refine ⟨k+1,by simpa using h1, ?_⟩
  rw [aP,bR]
  rintro (h3 | h3)
  ·exact e h3.symm
  exact h2 h3
theorem sN {α : Type} {P : α -> Prop}:∀ {xs:List α},(¬ ∀ x ∈ xs,P x) -> ∃ i u,xs[i]? = some u /\ ¬ P u /\ ∀ v ∈ xs.take i,P v
 | [],h=>absurd (by simp) h
 | y :: xs,h=>by
  by_cases e:P y
  ·obtain ⟨i,u,h1,h2,h3⟩:=sN (xs:=xs) (P:=P) (fun h2=>h fun x hx=>by
    rcases bR.1 hx with rfl | hx
    ·exact e
    ·exact h2 x hx)
   refine ⟨i+1,u,by simpa using h1,h2,fun v hv => ?_⟩
   rw [aP,bR] at hv
   rcases hv with rfl | hv
   ·exact e
   ·exact h3 v hv
  exact ⟨0,y,rfl,e,by simp⟩
theorem xY {f:FuncD} {O:List Nat} (hO:fT f O) (h:(-1:Int) ∈ iC f.blocks.length O O.length):∃ c:Nat,c < f.blocks.length /\ ¬ Way (toB f) (-1) c/\(∀ d,d < c -> Way (toB f) (-1) d)/\idxI (iC f.blocks.length O O.length) (-1)=c:=by
 obtain ⟨k,h1,h2⟩:=vE h
 have hk:=(aD.1 h1).1
 rw [fR] at hk
 refine ⟨k,hk,fun hw => ?_,fun d hd => ?_,zK h1 h2⟩
 ·have:=oW (O:=O) hk ((hO.facts.2.1 k).2 hw)
  rw [h1] at this
  injection this with this
  omega
 refine Classical.byContradiction fun hno=>h2 ?_
 have h3:=rZ (O:=O) (by omega:d < f.blocks.length) (fun hm=>hno ((hO.facts.2.1 d).1 hm))
 refine aG (i:=d) ?_
 rw [aW,if_pos hd];exact h3
theorem aE4 {x:BlockD} {k:Nat} {u:UseD} (hu:u ∈ uxB (x,k)):u.blk=(k:Int):=by
 unfold uxB at hu
 rw [bN] at hu
 rcases aL.1 hu with hu | hu
 ·rw [cU] at hu
  obtain ⟨p,hp,hu⟩:=hu
  unfold uxP at hu
  rw [bB] at hu
  obtain ⟨vs,hvs,rfl⟩:=hu
  rfl
 rcases aL.1 hu with hu | hu
 ·rw [cU] at hu
  obtain ⟨yk,hy,hu⟩:=hu
  unfold uxI at hu
  rw [bB] at hu
  obtain ⟨a,ha,rfl⟩:=hu
  rfl
 unfold uxT at hu
 split at hu
 ·simp at hu
  subst hu
  rfl
 split at hu
 ·simp at hu
  subst hu
  rfl
 simp at hu
theorem aBD {f:FuncD} {k:Nat} {x:BlockD} (hx:f.blocks[k]? = some x) (hok:∀ (d:Nat) (y:BlockD),d < k -> f.blocks[d]? = some y -> ∀ u ∈ uxB (y,d),gV f u) (hno:¬ ∀ u ∈ uxB (x,k),gV f u) :
  ∃ (i:Nat) (u:UseD),(uxF f)[i]? = some u /\ ¬ gV f u/\(∀ v ∈ (uxF f).take i,gV f v)/\(k:Int)=u.blk/\(6:Int)=6:=by
 obtain ⟨i,u,h1,h2,h3⟩:=sN hno
 have hz:f.blocks.zipIdx[k]? = some (x,k):=by rw [cQ,hx];simp
 have aa:f.blocks.zipIdx=f.blocks.zipIdx.take k ++ (x,k) :: f.blocks.zipIdx.drop (k+1):=by
  have h4:=dE k f.blocks.zipIdx
  rw [List.drop_eq_getElem_cons (aD.1 hz).1,(aD.1 hz).2] at h4
  exact h4.symm
 have hu:uxF f=(f.blocks.zipIdx.take k).flatMap uxB ++ (uxB (x,k) ++ (f.blocks.zipIdx.drop (k+1)).flatMap uxB):=by
  unfold uxF
  conv=>lhs;rw [aa]
  rw [List.flatMap_append,cC]
 have ab:=(aD.1 h1).1
 refine ⟨((f.blocks.zipIdx.take k).flatMap uxB).length+i,u, ?_,h2,fun v hv => ?_,(aE4 (aG h1)).symm,rfl⟩
 ·rw [hu,bS (by omega),Nat.add_sub_cancel_left,cY ab];exact h1
 ·rw [hu,List.take_length_add_append,aL] at hv
  rcases hv with hv | hv
  ·rw [cU] at hv
   obtain ⟨⟨y,d⟩,hy,hv⟩:=hv
   obtain ⟨q,hq⟩:=bJ.1 hy
   rw [aW] at hq
   split at hq
   ·rename_i hqk
    rw [cQ] at hq
    cases hb:f.blocks[q]? with
    | none=>rw [hb] at hq;cases hq
    | some z =>
     rw [hb] at hq
     simp at hq
     obtain ⟨rfl,rfl⟩:=hq
     exact hok q z hqk hb v hv
   cases hq
  rw [List.take_append_of_le_length (by omega)] at hv
  exact h3 v hv
set_option maxRecDepth 100000 in
theorem aGK {w:World} {v:Value} {f:FuncD} (hv:fP w v f):Calls Tryz.prog 47 #[v] w (aF9 f v w):=by
 have HV:=h! hv
 obtain ⟨ap,cp,ab,cb,rfl,hp,ha,hc,hB⟩:=hv.form
 obtain ⟨np,bc⟩ : ∃ np,np=f.params.length:=⟨_,rfl⟩
 obtain ⟨ar,bd⟩ : ∃ ar,ar=f.arrays:=⟨_,rfl⟩
 obtain ⟨ce,bf⟩ : ∃ ce,ce=f.cells:=⟨_,rfl⟩
 obtain ⟨nb,an⟩ : ∃ nb,nb=f.blocks.length:=⟨_,rfl⟩
 have ak:=h! an
 have bz:=hB.le
 rw [<-an] at bz
 rw [<-an, <-bc, <-bd, <-bf] at HV
 rw [<-an] at hB
 rw [<-an, <-bc, <-bd, <-bf]
 have br:=h! hB
 clear hp ha hc hB hv bc bd bf an
 go_enter Tryz.func47,Tryz.ntmps47
 go_upto_region 1 with (fail)
 have ai:=(Below.refl w.heap.size w).alloc (aC _) (.cells #[.slice ap np cp,.int .i64 ar,.int .i64 ce,.slice ab nb cb] 25)
 have HW:=h! ai
 clear ai
 have B1:=h! (Box.new w #[.slice ap np cp,.int .i64 ar,.int .i64 ce,.slice ab nb cb] 25)
 generalize w.alloc (.cells #[.slice ap np cp,.int .i64 ar,.int .i64 ce,.slice ab nb cb] 25)=wv at *
 obtain ⟨aa,ac,ad⟩:=B1.out
 go_wp2_with fail
 refine (aD7 (HV.out.below HW.out)).mono ?_
 rintro e w2 ⟨hb,⟨ao,rfl⟩ | ⟨ao,bt,bg,lg,ag,g,pv,ov,lv,O,I,rfl,bi,hO,hT,hD⟩⟩
 ·have az:(eV f != 0)=true:=by simpa using ao
  have ah:=h! ao
  clear ao
  clear aa ac ad
  replace B1:=h! (B1.out.later hb)
  replace HW:=h! (HW.out.trans (hb.mono HW.out.size))
  clear hb
  obtain ⟨aa,ac,ad⟩:=B1.out
  go_wp2
  go_ret3
  exact ⟨HW.out,.inl ⟨ah.out,rfl⟩⟩
 have ah:=h! ao
 have HO:=h! hO
 have HD:=h! hD
 have bb:=h! bi
 have HT:=h! hT
 obtain ⟨S2,be⟩ : ∃ S2,S2=w2:=⟨_,rfl⟩
 rw [<-be] at HT
 have HS:Hid (fN S2 w2):=h! (by rw [be];exact Below.refl _ _)
 clear hO hD hT bi ao be
 clear aa ac ad
 replace B1:=h! (B1.out.later hb)
 replace HW:=h! (HW.out.trans (hb.mono HW.out.size))
 clear hb
 obtain ⟨aa,ac,ad⟩:=B1.out
 go_wp2_with fail
 refine (aDE (HV.out.below HW.out)).mono ?_
 rintro e w3 ⟨hb,m,rfl,hm, -⟩
 rw [ah.out]
 obtain ⟨tm,rfl,bq, -⟩:=hm ah.out
 have af:=h! bq
 clear hm bq
 clear aa ac ad
 replace B1:=h! (B1.out.later hb)
 replace HS:=h! (HS.out.later hb)
 replace HW:=h! (HW.out.trans (hb.mono HW.out.size))
 clear hb
 obtain ⟨aa,ac,ad⟩:=B1.out
 go_wp2_with fail
 refine (xX (HV.out.below HW.out)).mono ?_
 rintro e w4 ⟨bm,rfl,bj, -,hb⟩
 have ay:=h! bj
 clear bj
 clear aa ac ad
 replace B1:=h! (B1.out.later hb)
 replace HS:=h! (HS.out.later hb)
 replace af:=h! (af.out.later hb)
 replace HW:=h! (HW.out.trans (hb.mono HW.out.size))
 clear hb
 obtain ⟨aa,ac,ad⟩:=B1.out
 go_upto_region 6 with (fail)
 have aq:w4.heap.size ≠ w.heap.size:=fun e=>by have:=aa;omega
 have nB1BS:w.heap.size ≠ w4.heap.size:=fun e=>aq e.symm
 clear aa ac ad
 have ai:=(Below.refl w4.heap.size w4).alloc (aC _) (.cells #[.pointer (some ⟨bt,0,none⟩),.map (some tm),.map (some bm)] 96)
 replace B1:=h! (B1.out.later ai)
 replace HS:=h! (HS.out.later ai)
 replace af:=h! (af.out.later ai)
 replace ay:=h! (ay.out.later ai)
 replace HW:=h! (HW.out.trans (ai.mono HW.out.size))
 clear ai
 have BS:=h! (Box.new w4 #[.pointer (some ⟨bt,0,none⟩),.map (some tm),.map (some bm)] 96)
 generalize w4.alloc (.cells #[.pointer (some ⟨bt,0,none⟩),.map (some tm),.map (some bm)] 96)=w5 at *
 obtain ⟨aa,ac,ad⟩:=B1.out
 obtain ⟨bO,bw,bv⟩:=BS.out
 have ae:Hid (StrM f w5 w4.heap.size bt bg lg ag bm g pv ov lv (.map (some tm)) O I):=h! ⟨BS.out,HT.out.later HS.out,ay.out⟩
 obtain ⟨bs,bk⟩ : ∃ bs,bs=w4.heap.size:=⟨_,rfl⟩
 simp only [<-bk] at *
 clear bk
 obtain ⟨-, -, -, -,d6⟩:=ae.out.t.cells
 have d0:=ae.out.t.cells.1
 go_wp2_with fail
 refine (oN (x := -1) (ae.out.t.place)).mono ?_
 rintro e w6 ⟨rfl,rfl⟩
 clear d0 d6
 have HLT:Hid (∀ c,c < nb -> (c ∈ O ↔ Way (toB f) (-1) c)):=h! (fun c _=>(HO.out.facts.2.1 c))
 by_cases hdead:(-1:Int) ∈ iC f.blocks.length O O.length
 ·obtain ⟨c,bx,az,bo,bl⟩:=xY HO.out hdead
  have am:Hid (gD f c 4):=h! (.inl ⟨c,bx,az,bo,rfl,rfl⟩)
  rw [bl]
  clear hdead az bo bl
  go_wp2
  go_ret3
  exact ⟨HW.out,.inr (.inl ⟨ah.out,_,_,am.out,by decide,rfl⟩)⟩
 have al:Hid (∀ d,d < f.blocks.length -> Way (toB f) (-1) d):=h! (by
  intro d hd
  refine Classical.byContradiction fun hno=>hdead ?_
  have h1:d ∉ O:=fun h=>hno ((HO.out.facts.2.1 d).1 h)
  have h2:=rZ (O:=O) hd h1
  exact aG h2)
 rw [tA hdead]
 clear hdead
 go_wp2_with fail
 go_loopw [49] (fun i wr => ∃ j:Nat,j <= nb/\i = .int .i64 j/\(∀ (d:Nat) (y:BlockD),d < j -> f.blocks[d]? = some y -> y.phis.all (fU (natI (fX f f.blocks.length 0 d)))=true)/\Below w.heap.size w wr/\Box wr w.heap.size #[.slice ap np cp,.int .i64 ar,.int .i64 ce,.slice ab nb cb]/\StrM f wr bs bt bg lg ag bm g pv ov lv (.map (some tm)) O I/\IMap wr tm (encT (fC f))) (fun i _=>nb - (intOf i).toNat)
 case atStart=>exact ⟨0,by omega,rfl,(fun d y hd=>by omega),HW.out,B1.out,ae.out,af.out⟩
 obtain ⟨j,hj,rfl,ax,hW,aw,hS,hT⟩:=hrel
 clear bO bw bv BS
 clear aa ac ad
 have aj:=h! ax
 replace HW:=h! hW
 replace B1:=h! aw
 replace ae:=h! hS
 replace af:=h! hT
 clear hW aw hS hT HS ay ax HT
 generalize wr=w7 at *
 obtain ⟨aa,ac,ad⟩:=B1.out
 by_cases hlt:j < nb
 ·obtain ⟨x,hx⟩ : ∃ x,f.blocks[j]? = some x:=⟨_,aB (by rw [<-ak.out];exact hlt)⟩
  have HX:=h! hx
  have bn:=h! (fun (hS:StrM f w7 bs bt bg lg ag bm g pv ov lv (.map (some tm)) O I)=>aGD (c:=j) (x:=x) (ap:=ap) (ab:=ab) (np:=np) (cp:=cp) (cb:=cb) (ar:=ar) (ce:=ce) (w:=w7) (by rw [<-ak.out];have h9:=bb.out;injection h9 with h9;rw [h9];exact hS) (by rw [<-ak.out];exact br.out.below gI.lasting HW.out) ah.out hx)
  clear hx
  go_wp2_with fail
  refine (bn.out ae.out).mono ?_
  rintro e w8 ⟨rfl,hb⟩
  obtain ⟨r,hr⟩ : ∃ r,r=x.phis.all (fU (natI (fX f f.blocks.length 0 j))):=⟨_,rfl⟩
  rw [<-hr]
  have HR:=h! hr
  clear hr bn
  clear aa ac ad
  replace B1:=h! (B1.out.later hb)
  replace ae:=h! (ae.out.later hb)
  replace af:=h! (af.out.later hb)
  replace HW:=h! (HW.out.trans (hb.mono HW.out.size))
  clear hb
  obtain ⟨aa,ac,ad⟩:=B1.out
  cases r
  ·have am:Hid (gD f j 5):=h! (.inr ⟨al.out,.inl ⟨j,x,HX.out,HR.out.symm,aj.out,rfl,rfl⟩⟩)
   go_wp2
   go_ret3
   exact ⟨HW.out,.inr (.inl ⟨ah.out,_,_,am.out,by decide,rfl⟩)⟩
  have ba:Hid (∀ (d:Nat) (y:BlockD),d < j+1 -> f.blocks[d]? = some y -> y.phis.all (fU (natI (fX f f.blocks.length 0 d)))=true):=h! (fun d y hd hy=>by
   by_cases e:d=j
   ·subst e
    have h1:=HX.out
    rw [hy] at h1
    cases h1
    exact HR.out.symm
   exact aj.out d y (by omega) hy)
  go_wp2
  go_roundw
  case rel=>exact ⟨j+1,hlt,by go_num,ba.out,HW.out,B1.out,ae.out,af.out⟩
  simp [intOf];omega
 have bp:Hid (∀ (d:Nat) (y:BlockD),f.blocks[d]? = some y -> y.phis.all (fU (natI (fX f f.blocks.length 0 d)))=true):=h! (fun d y hy=>aj.out d y (by have:=(aD.1 hy).1;have:=ak.out;omega) hy)
 clear aj
 go_wp2_with fail
 go_loopw [61] (fun i wr => ∃ j:Nat,j <= nb/\i = .int .i64 j/\(∀ (d:Nat) (y:BlockD),d < j -> f.blocks[d]? = some y -> ∀ u ∈ uxB (y,d),gV f u)/\Below w.heap.size w wr/\Box wr w.heap.size #[.slice ap np cp,.int .i64 ar,.int .i64 ce,.slice ab nb cb]/\StrM f wr bs bt bg lg ag bm g pv ov lv (.map (some tm)) O I/\IMap wr tm (encT (fC f))) (fun i _=>nb - (intOf i).toNat)
 case atStart=>exact ⟨0,by omega,rfl,(fun d y hd=>by omega),HW.out,B1.out,ae.out,af.out⟩
 obtain ⟨k,hk,rfl,ax,hW,aw,hS,hT⟩:=hrel
 clear aa ac ad
 have aj:=h! ax
 replace HW:=h! hW
 replace B1:=h! aw
 replace ae:=h! hS
 replace af:=h! hT
 clear hW aw hS hT ax
 generalize wr=w9 at *
 obtain ⟨aa,ac,ad⟩:=B1.out
 by_cases hltk:k < nb
 ·obtain ⟨x,hx⟩ : ∃ x,f.blocks[k]? = some x:=⟨_,aB (by rw [<-ak.out];exact hltk)⟩
  have HX:=h! hx
  have bh:=h! (fun (hS:StrM f w9 bs bt bg lg ag bm g pv ov lv (.map (some tm)) O I)=>aGB (c:=k) (x:=x) (ap:=ap) (ab:=ab) (np:=np) (cp:=cp) (cb:=cb) (ar:=ar) (ce:=ce) (w:=w9) (by rw [<-ak.out];have h9:=bb.out;injection h9 with h9;rw [h9];exact hS) (by rw [<-ak.out];exact br.out.below gI.lasting HW.out) HO.out HD.out ah.out hx)
  clear hx
  go_wp2_with fail
  refine (bh.out ae.out).mono ?_
  rintro e w10 ⟨r,rfl,hr,hb⟩
  have HR:=h! hr
  clear hr bh
  clear aa ac ad
  replace B1:=h! (B1.out.later hb)
  replace ae:=h! (ae.out.later hb)
  replace af:=h! (af.out.later hb)
  replace HW:=h! (HW.out.trans (hb.mono HW.out.size))
  clear hb
  obtain ⟨aa,ac,ad⟩:=B1.out
  cases r
  ·have am:Hid (gD f k 6):=h! (.inr ⟨al.out,.inr ⟨bp.out,.inl (aBD HX.out aj.out (fun h=>by have:=HR.out.2 h;cases this))⟩⟩)
   go_wp2
   go_ret3
   exact ⟨HW.out,.inr (.inl ⟨ah.out,_,_,am.out,by decide,rfl⟩)⟩
  have ba:Hid (∀ (d:Nat) (y:BlockD),d < k+1 -> f.blocks[d]? = some y -> ∀ u ∈ uxB (y,d),gV f u):=h! (fun d y hd hy=>by
   by_cases e:d=k
   ·subst e
    have h1:=HX.out
    rw [hy] at h1
    cases h1
    exact HR.out.1 rfl
   exact aj.out d y (by omega) hy)
  go_wp2
  go_roundw
  case rel=>exact ⟨k+1,hltk,by go_num,ba.out,HW.out,B1.out,ae.out,af.out⟩
  simp [intOf];omega
 have am:Hid (gD f 0 0):=h! (.inr ⟨al.out,.inr ⟨bp.out,.inr ⟨fun u hu=>by
   unfold uxF at hu
   rw [cU] at hu
   obtain ⟨⟨y,d⟩,hy,hu⟩:=hu
   rw [bT] at hy
   exact aj.out d y (by have:=(aD.1 hy).1;have:=ak.out;simp only at *;omega) hy u hu,rfl,rfl⟩⟩⟩)
 go_wp2
 go_ret3
 exact ⟨HW.out,.inr (.inr ⟨ah.out,am.out,bs,bt,bg,lg,ag,bm,tm,g,pv,ov,lv,O,I,rfl,bb.out,HO.out,HD.out,ae.out,af.out⟩)⟩
theorem aDD {w:World} {v:Value} {f:FuncD} (hv:fP w v f):Calls Tryz.prog 36 #[v] w (aAM f w):=by
 have HV:=h! hv
 obtain ⟨ap,cp,ab,cb,rfl, -, -, -, -⟩:=hv.form
 clear hv
 go_enter Tryz.func36,Tryz.ntmps36
 go_upto_region 1 with (fail)
 have ag:=(Below.refl w.heap.size w).alloc (aC _) (.cells #[.slice ap f.params.length cp,.int .i64 f.arrays,.int .i64 f.cells,.slice ab f.blocks.length cb] 25)
 have HW:=h! ag
 clear ag
 have B1:=h! (Box.new w #[.slice ap f.params.length cp,.int .i64 f.arrays,.int .i64 f.cells,.slice ab f.blocks.length cb] 25)
 generalize w.alloc (.cells #[.slice ap f.params.length cp,.int .i64 f.arrays,.int .i64 f.cells,.slice ab f.blocks.length cb] 25)=wv at *
 obtain ⟨ae,ac,ad⟩:=B1.out
 go_wp2_with fail
 refine (aGK (HV.out.below HW.out)).mono ?_
 rintro e w2 ⟨hb,⟨aa,rfl⟩ | ⟨aa,b,k,hF,hk,rfl⟩ | ⟨aa,hF,bs,bt,bg,lg,lcap,bm,tm,g,pv,ov,lv,O,I,rfl, -⟩⟩
 ·have af:=h! aa
  clear aa
  clear ae ac ad
  replace B1:=h! (B1.out.later hb)
  replace HW:=h! (HW.out.trans (hb.mono HW.out.size))
  clear hb
  obtain ⟨ae,ac,ad⟩:=B1.out
  go_wp2
  go_ret2
  exact ⟨_,_,rfl,(fun _=>⟨rfl,rfl⟩),(fun h=>absurd h af.out),HW.out⟩
 ·have af:=h! aa
  have HF:=h! hF
  clear aa hF hk
  clear ae ac ad
  replace B1:=h! (B1.out.later hb)
  replace HW:=h! (HW.out.trans (hb.mono HW.out.size))
  clear hb
  obtain ⟨ae,ac,ad⟩:=B1.out
  go_wp2
  go_ret2
  exact ⟨_,_,rfl,(fun h=>absurd af.out h),(fun _=>HF.out),HW.out⟩
 have af:=h! aa
 have HF:=h! hF
 clear aa hF
 clear ae ac ad
 replace B1:=h! (B1.out.later hb)
 replace HW:=h! (HW.out.trans (hb.mono HW.out.size))
 clear hb
 obtain ⟨ae,ac,ad⟩:=B1.out
 go_wp2
 go_ret2
 exact ⟨_,_,rfl,(fun h=>absurd af.out h),(fun _=>HF.out),HW.out⟩
theorem pF {P:Nat -> Prop} {c d:Nat} (h1:P c) (h2:∀ i,i < c -> ¬ P i) (k1:P d) (k2:∀ i,i < d -> ¬ P i):c=d:=by
 rcases Nat.lt_trichotomy c d with h | h | h
 ·exact absurd h1 (k2 c h)
 ·exact h
 exact absurd k1 (h2 d h)
theorem sO {f:FuncD} {b k b' k' : Int} (h:gD f b k) (h' : gD f b' k'):b=b' /\ k=k':=by
 rcases h with ⟨c,hc,hn,hl,rfl,rfl⟩ | ⟨ae,h⟩
 ·rcases h' with ⟨c',ai,aa,ab,rfl,rfl⟩ | ⟨ac, -⟩
  ·have:=pF (P:=fun c => ¬ Way (toB f) (-1) c) hn (fun i hi h=>h (hl i hi)) aa (fun i hi h=>h (ab i hi))
   subst this
   exact ⟨rfl,rfl⟩
  exact absurd (ac c hc) hn
 rcases h' with ⟨c',ai,aa,ab,rfl,rfl⟩ | ⟨ac,h'⟩
 ·exact absurd (ae c' ai) aa
 rcases h with ⟨c,x,hx,hn,hl,rfl,rfl⟩ | ⟨hp,h⟩
 ·rcases h' with ⟨c',x',af,aa,ab,rfl,rfl⟩ | ⟨ag, -⟩
  ·have:=pF (P:=fun c => ∃ x,f.blocks[c]? = some x/\x.phis.all (fU (natI (fX f f.blocks.length 0 c)))=false) ⟨x,hx,hn⟩ (fun i hi ⟨y,hy,h⟩=>by rw [hl i y hi hy] at h;cases h) ⟨x',af,aa⟩ (fun i hi ⟨y,hy,h⟩=>by rw [ab i y hi hy] at h;cases h)
   subst this
   exact ⟨rfl,rfl⟩
  have:=ag c x hx
  rw [hn] at this;cases this
 rcases h' with ⟨c',x',af,aa,ab,rfl,rfl⟩ | ⟨ag,h'⟩
 ·have:=hp c' x' af
  rw [aa] at this;cases this
 rcases h with ⟨i,u,hu,hn,hl,rfl,rfl⟩ | ⟨ha,rfl,rfl⟩
 ·rcases h' with ⟨i',u',ad,aa,ab,rfl,rfl⟩ | ⟨ah,rfl,rfl⟩
  ·have:=pF (P:=fun i => ∃ u,(uxF f)[i]? = some u /\ ¬ gV f u) ⟨u,hu,hn⟩ (fun j hj ⟨y,hy,h⟩=>h (hl y (aG (i:=j) (by rw [aW,if_pos hj];exact hy)))) ⟨u',ad,aa⟩ (fun j hj ⟨y,hy,h⟩=>h (ab y (aG (i:=j) (by rw [aW,if_pos hj];exact hy))))
   subst this
   rw [hu] at ad
   cases ad
   exact ⟨rfl,rfl⟩
  exact absurd (ah u (aG hu)) hn
 rcases h' with ⟨i',u',ad,aa,ab,rfl,rfl⟩ | ⟨ah,rfl,rfl⟩
 ·exact absurd (ha u' (aG ad)) aa
 exact ⟨rfl,rfl⟩
def vF (b n:Int) (still:Bool) (p:PhiD):PhiD :=
 if b ∈ p.src then
  if still then { p with src:=p.src ++ [n],vals:=p.vals ++ [p.vals.getD (p.src.idxOf b) 0] } else { p with src:=p.src.set (p.src.idxOf b) n }
 else p
theorem aE5 {nb:Nat} {b:Int} {still:Bool} {p:PhiD} (h:iQ nb p=true):iQ (nb+1) (vF b nb still p)=true:=by
 unfold iQ at h ⊢
 simp only [aK,aZ,decide_eq_true_eq,beq_iff_eq] at h
 obtain ⟨⟨⟨h1,h2⟩,h3⟩,h4⟩:=h
 have hm:∀ x ∈ p.src,numB (nb+1) x=true:=fun x hx=>by
  have:=h3 x hx
  unfold numB at this ⊢
  simp at this ⊢;omega
 have aa:(nb:Int) ∉ p.src:=fun hx=>by
  have:=h3 _ hx
  unfold numB at this
  simp at this
 have ad:numB (nb+1) (nb:Int)=true:=by unfold numB;simp;omega
 simp only [aK,aZ,decide_eq_true_eq,beq_iff_eq]
 unfold vF
 split
 ·rename_i hb
  split
  ·refine ⟨⟨⟨h1,by simp [h2]⟩,fun x hx => ?_⟩, ?_⟩
   ·rcases aL.1 hx with hx | hx
    ·exact hm x hx
    rw [cN.1 hx];exact ad
   rw [bW]
   exact ⟨h4,by simp,fun a ha c hc e=>by rw [cN] at hc;exact aa (by rw [<-hc, <-e];exact ha)⟩
  refine ⟨⟨⟨h1,by simp [h2]⟩,fun x hx => ?_⟩, ?_⟩
  ·rcases List.mem_or_eq_of_mem_set hx with hx | hx
   ·exact hm x hx
   rw [hx];exact ad
  rw [dH,List.pairwise_iff_getElem]
  intro i j hi hj ae
  rw [List.getElem_set,List.getElem_set]
  have ab : i < p.src.length:=by simpa using hi
  have ac : j < p.src.length:=by simpa using hj
  split
  ·split
   ·omega
   intro e;exact aa (e ▸ List.getElem_mem ac)
  split
  ·intro e;exact aa (e ▸ List.getElem_mem ab)
  intro e
  rw [dH,List.pairwise_iff_getElem] at h4
  exact h4 i j ab ac ae e
 exact ⟨⟨⟨h1,h2⟩,hm⟩,h4⟩
theorem nF {nb:Nat} {ar ce:Int} {x:BlockD} {i:Nat}:gA nb ar ce (x,i)=true ↔ (i=0 -> x.phis=[])/\(∀ p ∈ x.phis,iQ nb p=true)/\(x.code.all (fZ ar ce))=true/\iR nb x.term=true:=by
 unfold gA
 simp only [aK,aZ,Bool.not_eq_true',Bool.and_eq_false_iff,decide_eq_false_iff_not]
 constructor
 ·rintro ⟨⟨⟨h1,h2⟩,h3⟩,h4⟩
  refine ⟨fun hi => ?_,h2,h3,h4⟩
  rcases h1 with h1 | h1
  ·exact absurd hi h1
  exact bZ (by omega)
 rintro ⟨h1,h2,h3,h4⟩
 refine ⟨⟨⟨?_,h2⟩,h3⟩,h4⟩
 by_cases hi:i=0
 ·right;rw [h1 hi];simp
 left;exact hi
theorem aCZ {f:FuncD}:gD f 0 0 ↔ (∀ d,d < f.blocks.length -> Way (toB f) (-1) d)/\(∀ (d:Nat) (y:BlockD),f.blocks[d]? = some y -> y.phis.all (fU (natI (fX f f.blocks.length 0 d)))=true) /\ ∀ v ∈ uxF f,gV f v:=by
 unfold gD
 constructor
 ·rintro (⟨c, -, -, -, -,h⟩ | ⟨h1,⟨c,x, -, -, -, -,h⟩ | ⟨h2,⟨i,u, -, -, -, -,h⟩ | ⟨h3, -, -⟩⟩⟩)
  ·cases h
  ·cases h
  ·cases h
  exact ⟨h1,h2,h3⟩
 rintro ⟨h1,h2,h3⟩
 exact .inr ⟨h1,.inr ⟨h2,.inr ⟨h3,rfl,rfl⟩⟩⟩
section
variable {f:FuncD} {b k t:Nat} {x:BlockD} {still:Bool}
end
def eR (W:World) (S:Foot) (v:Value) (xs:List Int):Prop:=ORow W S 3 1 v xs.length (xs.map (.int .i64)) /\ ∀ x ∈ xs,In64 x
theorem eR.ints {W:World} {S:Foot} {v:Value} {xs:List Int} (h:eR W S v xs):Ints W v xs:=⟨h.1.row,h.2⟩
theorem eR.keep {W W' : World} {S:Foot} {v:Value} {xs:List Int} (h:eR W S v xs) (hk:∀ k,S k -> W'.heap[k]? = W.heap[k]?):eR W' S v xs:=⟨h.1.keep hk,h.2⟩
theorem eR.wide {W:World} {S S' : Foot} {v:Value} {xs:List Int} (h:eR W S v xs) (hs:∀ k,S k -> S' k) (hl:∀ k,S' k -> k < W.heap.size):eR W S' v xs:=⟨h.1.wide hs hl,h.2⟩
theorem eR.lt {W:World} {S:Foot} {v:Value} {xs:List Int} (h:eR W S v xs):∀ k,S k -> k < W.heap.size:=h.1.lt
theorem eR.off {W W' : World} {S D:Foot} {v:Value} {xs:List Int} (h:eR W S v xs) (ho:Off D W W') (hn:S.off D):eR W' S v xs:=⟨h.1.off ho hn,h.2⟩
theorem eR.set {W:World} {S:Foot} {v:Value} {xs:List Int} (h:eR W S v xs) {g cap:Nat} (hv:v = .slice (some ⟨g,0,none⟩) xs.length cap) {i:Nat} (hi:i < xs.length) {y:Int} (hy:In64 y):eR (W.setCell ⟨g,i,none⟩ (.int .i64 y)) S v (xs.set i y):=by
 refine ⟨by rw [bQ,List.map_set];exact h.1.set hv (by omega) i _,fun z hz => ?_⟩
 rcases List.mem_or_eq_of_mem_set hz with h1 | h1
 ·exact h.2 z h1
 rw [h1];exact hy
theorem eR.nil {W:World} (a:Option Addr):eR W Foot.none (.slice a 0 0) []:=⟨ORow.nil a,by simp⟩
structure OPhi (W:World) (S:Foot) (cs:List Value) (p:PhiD):Prop where
 ex:∃ v u S1 S2,cs=[.int .i64 p.id,.int .i64 p.typ,v,u]/\eR W S1 v p.src/\eR W S2 u p.vals/\S1.off S2/\(∀ k,S1 k -> S k) /\ ∀ k,S2 k -> S k
 lt:∀ k,S k -> k < W.heap.size
 id:In64 p.id
 typ:In64 p.typ
structure OInstr (W:World) (S:Foot) (cs:List Value) (x:InstrD):Prop where
 ex:∃ v,cs=[.int .i64 x.op,.int .i64 x.id,v,.int .i64 x.n]/\eR W S v x.args
 op:In64 x.op
 id:In64 x.id
 n:In64 x.n
structure OTerm (W:World) (S:Foot) (cs:List Value) (t:TermD):Prop where
 ex:∃ v,cs=[.int .i64 t.op,.int .i64 t.val,v,.int .i64 t.n]/\eR W S v t.to
 op:In64 t.op
 val:In64 t.val
 n:In64 t.n
theorem OPhi.nice:Nice OPhi where
 keep:=fun h hk=>by
  obtain ⟨⟨v,u,S1,S2,e,h1,h2,h3,h4,h5⟩,hl,a,b⟩:=h
  refine ⟨⟨v,u,S1,S2,e,h1.keep fun k hk1=>hk k (h4 k hk1),h2.keep fun k hk1=>hk k (h5 k hk1),h3,h4,h5⟩,fun k hs => ?_,a,b⟩
  have h6:=hk k hs
  rw [aY (hl k hs)] at h6
  exact (aM.1 h6).1
 lt:=fun h=>h.lt
 wide:=fun h hs hl=>by
  obtain ⟨⟨v,u,S1,S2,e,h1,h2,h3,h4,h5⟩,_,a,b⟩:=h
  exact ⟨⟨v,u,S1,S2,e,h1,h2,h3,fun k hk=>hs k (h4 k hk),fun k hk=>hs k (h5 k hk)⟩,hl,a,b⟩
theorem OInstr.nice:Nice OInstr where
 keep:=fun ⟨⟨v,e,h⟩,a,b,c⟩ hk=>⟨⟨v,e,h.keep hk⟩,a,b,c⟩
 lt:=fun ⟨⟨v,e,h⟩,a,b,c⟩=>h.lt
 wide:=fun ⟨⟨v,e,h⟩,a,b,c⟩ hs hl=>⟨⟨v,e,h.wide hs hl⟩,a,b,c⟩
theorem OTerm.nice:Nice OTerm where
 keep:=fun ⟨⟨v,e,h⟩,a,b,c⟩ hk=>⟨⟨v,e,h.keep hk⟩,a,b,c⟩
 lt:=fun ⟨⟨v,e,h⟩,a,b,c⟩=>h.lt
 wide:=fun ⟨⟨v,e,h⟩,a,b,c⟩ hs hl=>⟨⟨v,e,h.wide hs hl⟩,a,b,c⟩
abbrev fV:=OSl OPhi 78 4
abbrev gX:=OSl OInstr 82 4
structure OBlock (W:World) (S:Foot) (cs:List Value) (b:BlockD):Prop where
 ex:∃ v u t S1 S2 S3,cs=v :: u :: t/\fV W S1 v b.phis/\gX W S2 u b.code/\OTerm W S3 t b.term/\S1.off S2/\S1.off S3/\S2.off S3/\(∀ k,S1 k -> S k)/\(∀ k,S2 k -> S k) /\ ∀ k,S3 k -> S k
 lt:∀ k,S k -> k < W.heap.size
theorem OBlock.nice:Nice OBlock where
 keep:=fun h hk=>by
  obtain ⟨⟨v,u,t,S1,S2,S3,e,h1,h2,h3,h4,h5,h6,h7,h8,h9⟩,hl⟩:=h
  refine ⟨⟨v,u,t,S1,S2,S3,e,h1.keep OPhi.nice fun k hk1=>hk k (h7 k hk1),h2.keep OInstr.nice fun k hk1=>hk k (h8 k hk1),OTerm.nice.keep h3 fun k hk1=>hk k (h9 k hk1),h4,h5,h6,h7,h8,h9⟩,fun k hs => ?_⟩
  have h6:=hk k hs
  rw [aY (hl k hs)] at h6
  exact (aM.1 h6).1
 lt:=fun h=>h.lt
 wide:=fun h hs hl=>by
  obtain ⟨⟨v,u,t,S1,S2,S3,e,h1,h2,h3,h4,h5,h6,h7,h8,h9⟩,_⟩:=h
  exact ⟨⟨v,u,t,S1,S2,S3,e,h1,h2,h3,h4,h5,h6,fun k hk=>hs k (h7 k hk),fun k hk=>hs k (h8 k hk),fun k hk=>hs k (h9 k hk)⟩,hl⟩
abbrev eX:=OSl OBlock 63 6
structure OFunc (W:World) (S:Foot) (v:Value) (f:FuncD):Prop where
 ex:∃ a b S1 S2,v = .agg #[a,.int .i64 f.arrays,.int .i64 f.cells,b]/\eR W S1 a f.params/\eX W S2 b f.blocks/\S1.off S2/\(∀ k,S1 k -> S k) /\ ∀ k,S2 k -> S k
 lt:∀ k,S k -> k < W.heap.size
 arrays:In64 f.arrays
 cells:In64 f.cells
theorem OFunc.keep {W W' : World} {S:Foot} {v:Value} {f:FuncD} (h:OFunc W S v f) (hk:∀ k,S k -> W'.heap[k]? = W.heap[k]?):OFunc W' S v f:=by
 obtain ⟨⟨a,b,S1,S2,e,h1,h2,h3,h4,h5⟩,hl,x,y⟩:=h
 refine ⟨⟨a,b,S1,S2,e,h1.keep fun k hk1=>hk k (h4 k hk1),h2.keep OBlock.nice fun k hk1=>hk k (h5 k hk1),h3,h4,h5⟩,fun k hs => ?_,x,y⟩
 have h6:=hk k hs
 rw [aY (hl k hs)] at h6
 exact (aM.1 h6).1
theorem OFunc.off {W W' : World} {S D:Foot} {v:Value} {f:FuncD} (h:OFunc W S v f) (ho:Off D W W') (hn:S.off D):OFunc W' S v f:=h.keep fun k hk=>ho.block k (h.lt k hk) (hn k hk)
theorem OFunc.below {W W' : World} {S:Foot} {v:Value} {f:FuncD} (h:OFunc W S v f) (hb:Below W.heap.size W W'):OFunc W' S v f:=h.off (.of_below hb Foot.none) fun k _ hk=>hk
theorem OPhi.reads {W:World} {S:Foot} {cs:List Value} {p:PhiD} (h:OPhi W S cs p):PhiR W cs p:=by
 obtain ⟨⟨v,u,S1,S2,e,h1,h2,_⟩,_,a,b⟩:=h
 exact ⟨v,u,e,h1.ints,h2.ints,a,b⟩
theorem OInstr.reads {W:World} {S:Foot} {cs:List Value} {x:InstrD} (h:OInstr W S cs x):gZ W cs x:=by
 obtain ⟨⟨v,e,h⟩,a,b,c⟩:=h
 exact ⟨v,e,h.ints,a,b,c⟩
theorem OTerm.reads {W:World} {S:Foot} {cs:List Value} {t:TermD} (h:OTerm W S cs t):xA W cs t:=by
 obtain ⟨⟨v,e,h⟩,a,b,c⟩:=h
 exact ⟨v,e,h.ints,a,b,c⟩
theorem OBlock.reads {W:World} {S:Foot} {cs:List Value} {b:BlockD} (h:OBlock W S cs b):gI W cs b:=by
 obtain ⟨⟨v,u,t,S1,S2,S3,e,h1,h2,h3,_⟩,_⟩:=h
 exact ⟨v,u,t,e,h1.reads fun _ _ _ h=>h.reads,h2.reads fun _ _ _ h=>h.reads,h3.reads⟩
theorem OFunc.reads {W:World} {S:Foot} {v:Value} {f:FuncD} (h:OFunc W S v f):fP W v f:=by
 obtain ⟨⟨a,b,S1,S2,e,h1,h2,_⟩,_,x,y⟩:=h
 exact ⟨a,b,e,h1.ints,x,y,h2.reads fun _ _ _ h=>h.reads⟩
end Go.Proofs.YtagabiidbbhhmaaGreat
