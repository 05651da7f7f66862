/- Part 51. -/
import Derived.Test.YtgmhnepmkaonaaaGreatQA50
import Derived.Test.YtgmhnepmkaonaaaGreatQA34
import Derived.Test.YtgmhnepmkaonaaaGreatQA32
namespace Go.Proofs.YtgmhnepmkaonaaaGreat
set_option maxHeartbeats 6400000
set_option linter.unusedSimpArgs false
set_option linter.unusedVariables false
open Go.RowKit
private theorem Since.alloc {w0 W:World} (h:Since w0 W) (o:Obj):Since w0 (W.alloc o):=h.later ((Below.refl _ _).alloc (Nat.le_refl _) o)
def atI (O:List Nat) (b i:Nat):Int:=if b ∈ O.take i then ((O.idxOf b:Nat):Int) else -1
theorem atI_yes {O:List Nat} (hn:O.Nodup) {b i:Nat} (h:O[i]? = some b):atI O b (i+1)=i:=by
 unfold atI
 rw [take_snoc _ _ _ h,if_pos (by simp),idxOf_at hn h]
theorem atI_no {O:List Nat} {b i p:Nat} (h:O[i]? = some p) (hne:p ≠ b):atI O b (i+1)=atI O b i:=by
 unfold atI
 rw [take_snoc _ _ _ h]
 have:(b ∈ O.take i ++ [p]) ↔ b ∈ O.take i:=by
  rw [List.mem_append,List.mem_singleton]
  exact or_iff_left (Ne.symm hne)
 simp only [this]
theorem atI_zero (O:List Nat) (b:Nat):atI O b 0 = -1:=by simp [atI]
theorem placeI_atI {n:Nat} {O:List Nat} {b i:Nat} (h:b < n):(placeI n O i)[b]? = some (atI O b i):=by simp [placeI,atI,h]
set_option maxRecDepth 100000 in
theorem refPlaces {w:World} {v:Value} {f:FuncD} (hv:FuncV w v f) (hf:formB f=true):Calls Tryz.prog 77 #[v] w fun e w' => ∃ u O,e = .returned u/\IsOrder f O/\Ints w' u (placeI f.blocks.length O O.length)/\Below w.heap.size w w':=by
 have HV:=hd hv
 have HF:=hd hf
 obtain ⟨hn1,hn2⟩:=formB_nb hf
 obtain ⟨ap,cp,ab,cb,rfl, -, -, -, -⟩:=hv.form
 obtain ⟨nb,hnb⟩ : ∃ nb,nb=f.blocks.length:=⟨_,rfl⟩
 have HNB:=hd hnb
 rw [<-hnb] at HV hn1 hn2
 rw [<-hnb]
 clear hv hnb hf
 go_enter Tryz.func77,Tryz.ntmps77
 go_upto_region 1 with (fail)
 have B1:Hid (Box (w.alloc (.cells #[.slice ap f.params.length cp,.int .i64 f.arrays,.int .i64 f.cells,.slice ab nb cb] 25)) (w.heap.size) #[.slice ap f.params.length cp,.int .i64 f.arrays,.int .i64 f.cells,.slice ab nb cb]):=hd (by simpa using (Box.new w #[.slice ap f.params.length cp,.int .i64 f.arrays,.int .i64 f.cells,.slice ab nb cb] 25))
 have HW:Hid (Below w.heap.size w (w.alloc (.cells #[.slice ap f.params.length cp,.int .i64 f.arrays,.int .i64 f.cells,.slice ab nb cb] 25))):=hd ((Below.refl _ _).alloc (Nat.le_refl _) _)
 generalize (w.alloc (.cells #[.slice ap f.params.length cp,.int .i64 f.arrays,.int .i64 f.cells,.slice ab nb cb] 25))=wv at *
 obtain ⟨lB1,cB1,fB1⟩:=B1.out
 go_wp2_with fail
 refine (refOrder (HV.out.below HW.out) HF.out).mono ?_
 rintro e w2 ⟨ov,O,rfl,hO,hov,hb⟩
 have HO:=hd hO
 obtain ⟨h1,h2,h3,h4, -⟩:=hO.facts
 have HND:=hd h1
 have HIN:=hd h3
 obtain ⟨nO,hnO⟩ : ∃ nO,nO=O.length:=⟨_,rfl⟩
 have HNO:=hd hnO
 have hpos:0 < nO:=by rw [hnO];exact (List.getElem?_eq_some_iff.1 h4).1
 have hnO5:nO <= 512:=by
  have h9:=holes nb (natI O) (by
   unfold natI
   rw [List.nodup_iff_pairwise_ne,List.pairwise_map]
   exact h1.imp fun h e=>h (by omega)) (fun x hx=>by
   obtain ⟨p,hp,rfl⟩:=List.mem_map.1 (show x ∈ O.map (fun n:Nat=>(n:Int)) from hx)
   have:=h3 p hp
   rw [<-HNB.out] at this
   omega)
  rw [natI_len, <-hnO] at h9
  omega
 obtain ⟨gb,go_,gc,rfl,hgl, -, -,hgx⟩:=ints_cells hov (by rw [natI_len, <-hnO];exact hpos)
 rw [natI_len, <-hnO] at hgx ⊢
 have HGX:=hd hgx
 have H22:Hid (Since w2 w2):=hd (Below.refl _ _)
 clear hO h1 h2 h3 h4 hov hgx hnO
 clear lB1 cB1 fB1
 replace B1:=hd (B1.out.later hb)
 replace HW:=hd (HW.out.trans (hb.mono HW.out.size))
 clear hb
 obtain ⟨lB1,cB1,fB1⟩:=B1.out
 go_upto_region 3 with (fail)
 replace HW:=hd (HW.out.alloc HW.out.size (.cells #[] 3))
 have B13:=hd (B1.out.alloc (.cells #[] 3))
 have H23:=hd (H22.out.alloc (.cells #[] 3))
 clear lB1 cB1 fB1
 clear B1 H22
 obtain ⟨BZ,hBZ⟩ : ∃ BZ:Addr,BZ=⟨w2.heap.size,0,none⟩:=⟨_,rfl⟩
 rw [<-hBZ]
 clear hBZ
 generalize w2.alloc _=w3 at *
 go_wp2_with fail
 have HW3:=HW
 clear HW
 go_loopw [4,5] (fun bv iv wr => ∃ (j:Nat) (a:Option Addr) (c:Nat) (S:Foot),j <= nb/\bv = .slice a j c/\iv = .int .i64 j/\OInts wr S (.slice a j c) ((placeI nb O O.length).take j)/\(∀ q,S q -> w3.heap.size <= q)/\Below w3.heap.size w3 wr) (fun _ iv _=>nb - (intOf iv).toNat)
 case atStart=>exact ⟨0,_,0,Foot.none,Nat.zero_le _,rfl,rfl,by rw [List.take_zero];exact OInts.nil _,fun q hq=>hq.elim,Below.refl _ _⟩
 case round =>
  obtain ⟨j,a1,c1,S1,hj,rfl,rfl,hoi,hsb,hbw⟩:=hrel
  have HOI:=hd hoi
  have HSB:=hd hsb
  have HBW:=hd hbw
  have H2R:Hid (Since w2 wr):=hd (H23.out.later hbw)
  have HW:Hid (Below w.heap.size w wr):=hd (HW3.out.trans (hbw.mono HW3.out.size))
  have B1:=hd (B13.out.later hbw)
  clear hoi hsb hbw
  obtain ⟨lB1,cB1,fB1⟩:=B1.out
  by_cases hlt:j < nb
  ·go_wp2_with fail
   clear lB1 cB1 fB1
   obtain ⟨W1,hW1⟩ : ∃ W1,W1=wr:=⟨_,rfl⟩
   rw [<-hW1] at HOI HBW H2R HW B1 ⊢
   clear hW1
   go_loopw [6,7] (fun av iv wr => ∃ i:Nat,i <= nO/\av = .int .i64 (atI O j i)/\iv = .int .i64 i/\wr=W1) (fun _ iv _=>nO - (intOf iv).toNat)
   case atStart=>exact ⟨0,Nat.zero_le _,by rw [atI_zero],rfl,rfl⟩
   case round =>
    obtain ⟨i,hi,rfl,rfl,rfl⟩:=hrel
    obtain ⟨at_,hat⟩ : ∃ at_,at_=atI O j i:=⟨_,rfl⟩
    rw [<-hat]
    have HAT:=hd hat
    clear hat
    by_cases hit:i < nO
    ·obtain ⟨p,hp⟩ : ∃ p,O[i]? = some p:=⟨_,List.getElem?_eq_getElem (by rw [<-HNO.out];exact hit)⟩
     have z1:=(H2R.out.cell (p:=⟨gb,go_+i,none⟩) hgl).trans (HGX.out i hit)
     have hgv:(natI O).getD i 0=(p:Int):=by unfold natI;rw [List.getD_eq_getElem?_getD,List.getElem?_map,hp];rfl
     rw [hgv] at z1
     have HP:=hd hp
     clear hgv hp
     by_cases hpj:p=j
     ·have hq:((p:Int) == (j:Int))=true:=by simp [hpj]
      have HNX:Hid (atI O j (i+1)=i):=hd (atI_yes HND.out (by rw [HP.out,hpj]))
      clear hpj
      go_wp2
      go_roundw
      case rel=>exact ⟨i+1,hit,by rw [HNX.out],by go_num,trivial⟩
      case measure=>simp [intOf];omega
     ·have hq:((p:Int) == (j:Int))=false:=by simp;omega
      have HNX:Hid (atI O j (i+1)=at_):=hd (by rw [atI_no HP.out hpj,HAT.out])
      clear hpj
      go_wp2
      go_roundw
      case rel=>exact ⟨i+1,hit,by rw [HNX.out],by go_num,trivial⟩
      case measure=>simp [intOf];omega
    ·obtain rfl:nO=i:=by omega
     have HPJ:Hid ((placeI nb O O.length)[j]? = some at_):=hd (by rw [placeI_atI hlt,HAT.out,HNO.out])
     have hin:In64 at_:=by
      rw [HAT.out]
      unfold atI
      have:=List.idxOf_le_length (a:=j) (l:=O)
      rw [<-HNO.out] at this
      split
      ·exact ⟨by omega,by omega⟩
      ·exact ⟨by omega,by omega⟩
     have HLL:Hid (((placeI nb O O.length).take j).length=j):=hd (by rw [List.length_take,placeI_len];omega)
     clear HAT
     go_wp2_with (at_builtin;go_loud (refine wpList_iapps (ys:=[at_]) (m:=1) rfl _ _ rfl HLL.out rfl rfl rfl (HOI.out.off (Off.alloc Foot.none _ _) (fun _ _ h=>h)) (ints_of_box (Box.new _ _ _) hin) (by omega) ?_);intro a3 c3 w8 G2 hO hG hof)
     rw [<-take_snoc _ _ _ HPJ.out] at hO
     have HOO:=hd hO
     have HGB:Hid (∀ q,G2 q -> w3.heap.size <= q):=hd (fun q hq=>by
      rcases hG q hq with h | h
      ·exact HSB.out q h
      ·have:=HBW.out.size;simp at h;omega)
     have HB4:Hid (Below w3.heap.size w3 w8):=hd (HBW.out.trans ((((Below.refl w3.heap.size _).alloc HBW.out.size _)).trans (hof.below (by have:=HBW.out.size;simp;omega) (fun q _ hq=>HSB.out q hq))))
     clear hO hG hof
     go_roundw
     case rel=>exact ⟨j+1,a3,c3,G2,hlt,rfl,by go_num,HOO.out,HGB.out,HB4.out⟩
     case measure=>simp [intOf];omega
  ·obtain rfl:nb=j:=by omega
   have hall:(placeI nb O O.length).take nb=placeI nb O O.length:=List.take_of_length_le (by rw [placeI_len];exact Nat.le_refl _)
   have HX:Hid (Ints wr (.slice a1 nb c1) (placeI nb O O.length)):=hd (by have h9:=HOI.out.ints;rw [hall] at h9;exact h9)
   clear hall
   go_wp2
   go_ret
   exact ⟨_,O,rfl,HO.out,HX.out,HW.out⟩
def ROddR (f:FuncD) (w:World) (e:Ending) (w' : World):Prop := ∃ (O:List Nat) (a:Option Addr) (c:Nat),IsOrder f O/\e = .returned (.slice a (oddF f O).length c)/\Ints w' (.slice a (oddF f O).length c) (natI (oddF f O))/\Below w.heap.size w w'
set_option maxRecDepth 100000 in
theorem refOdd {w:World} {v:Value} {f:FuncD} (hv:FuncV w v f) (hc:checkF f=0) (hF:FaultR f 0 0):Calls Tryz.prog 38 #[v] w (ROddR f w):=by
 have HV:=hd hv
 have HF:=hd (check_fine hc).1
 have HALL:Hid (∀ d,d < f.blocks.length -> Way (toB f) (-1) d):=hd (by
  rcases hF with ⟨_,_,_,_,_,h⟩ | ⟨h,_⟩
  ·cases h
  ·exact h)
 obtain ⟨hn1,hn2⟩:=formB_nb HF.out
 obtain ⟨ap,cp,ab,cb,rfl, -, -, -, -⟩:=hv.form
 obtain ⟨nb,hnb⟩ : ∃ nb,nb=f.blocks.length:=⟨_,rfl⟩
 have HNB:=hd hnb
 rw [<-hnb] at HV hn1 hn2
 rw [<-hnb]
 clear hv hnb hc hF
 go_enter Tryz.func38,Tryz.ntmps38
 go_upto_region 1 with (fail)
 have B1:Hid (Box (w.alloc (.cells #[.slice ap f.params.length cp,.int .i64 f.arrays,.int .i64 f.cells,.slice ab nb cb] 25)) (w.heap.size) #[.slice ap f.params.length cp,.int .i64 f.arrays,.int .i64 f.cells,.slice ab nb cb]):=hd (by simpa using (Box.new w #[.slice ap f.params.length cp,.int .i64 f.arrays,.int .i64 f.cells,.slice ab nb cb] 25))
 have HW:Hid (Below w.heap.size w (w.alloc (.cells #[.slice ap f.params.length cp,.int .i64 f.arrays,.int .i64 f.cells,.slice ab nb cb] 25))):=hd ((Below.refl _ _).alloc (Nat.le_refl _) _)
 generalize (w.alloc (.cells #[.slice ap f.params.length cp,.int .i64 f.arrays,.int .i64 f.cells,.slice ab nb cb] 25))=wv at *
 obtain ⟨lB1,cB1,fB1⟩:=B1.out
 go_wp2_with fail
 refine (refOver (HV.out.below HW.out) HF.out).mono ?_
 rintro e w2 ⟨ov,rfl,hov,hb⟩
 obtain ⟨oc,ob,oo,rfl,hoc, -,hobl,hox⟩:=hov.parts (by rw [<-HNB.out];omega)
 rw [<-HNB.out] at hox hoc ⊢
 have HOX:=hd hox
 have H22:Hid (Since w2 w2):=hd (Below.refl _ _)
 clear hov hox
 clear lB1 cB1 fB1
 replace B1:=hd (B1.out.later hb)
 replace HW:=hd (HW.out.trans (hb.mono HW.out.size))
 clear hb
 obtain ⟨lB1,cB1,fB1⟩:=B1.out
 go_wp2_with fail
 refine (refPreds (HV.out.below HW.out) HF.out).mono ?_
 rintro e w4 ⟨pv,rfl,hP,hb⟩
 obtain ⟨vs,pa,pc,pb,po,rfl, -, -, -,hpa,hpx,hpi⟩:=hP.parts
 have hpl:(predsF f).length=f.blocks.length:=predI_len _ _ _
 rw [hpl] at hpa hpx hpi
 rw [hpl]
 obtain ⟨rfl,hpbl⟩:=hpa (by rw [<-HNB.out];omega)
 rw [<-HNB.out] at hpx hpi
 rw [<-HNB.out]
 have HPX:Hid (∀ j,j < nb -> w4.cell? ⟨pb,po+j,none⟩=some (vs.getD j undef)/\Ints w4 (vs.getD j undef) (natI (predN f f.blocks.length 0 j))):=hd (fun j hj=>by
  refine ⟨hpx j hj, ?_⟩
  have h9:=hpi j hj
  have h8:(predsF f).getD j []=natI (predN f f.blocks.length 0 j):=by
   unfold predsF
   rw [List.getD_eq_getElem?_getD,predI_at (by rw [<-HNB.out];exact hj)];rfl
  rwa [h8] at h9)
 have H44:Hid (Since w4 w4):=hd (Below.refl _ _)
 clear hP hpa hpx hpi hpl
 clear lB1 cB1 fB1
 replace B1:=hd (B1.out.later hb)
 replace H22:=hd (H22.out.later hb)
 replace HW:=hd (HW.out.trans (hb.mono HW.out.size))
 clear hb
 obtain ⟨lB1,cB1,fB1⟩:=B1.out
 go_wp2_with fail
 refine (refPlaces (HV.out.below HW.out) HF.out).mono ?_
 rintro e w6 ⟨lv,O,rfl,hO,hlv,hb⟩
 have hpl:=placeI_len f.blocks.length O O.length
 obtain ⟨gb,go_,gc,rfl,hgl, -, -,hgx⟩:=ints_cells hlv (by rw [hpl, <-HNB.out];omega)
 rw [hpl, <-HNB.out] at hgx ⊢
 have HGX:Hid (∀ b,b < nb -> w6.cell? ⟨gb,go_+b,none⟩=some (.int .i64 (O.idxOf b:Nat))):=hd (fun b hb=>by
  have h9:=hgx b hb
  rw [HNB.out,place_in hO HALL.out (by rw [<-HNB.out];exact hb)] at h9
  exact h9)
 have HO:=hd hO
 have H66:Hid (Since w6 w6):=hd (Below.refl _ _)
 clear hO hlv hgx hpl
 clear lB1 cB1 fB1
 replace B1:=hd (B1.out.later hb)
 replace H22:=hd (H22.out.later hb)
 replace H44:=hd (H44.out.later hb)
 replace HW:=hd (HW.out.trans (hb.mono HW.out.size))
 clear hb
 obtain ⟨lB1,cB1,fB1⟩:=B1.out
 go_upto_region 5 with (fail)
 replace HW:=hd (HW.out.alloc HW.out.size (.cells #[] 3))
 have B13:=hd (B1.out.alloc (.cells #[] 3))
 have H23:=hd (H22.out.alloc (.cells #[] 3))
 have H43:=hd (H44.out.alloc (.cells #[] 3))
 have H63:=hd (H66.out.alloc (.cells #[] 3))
 clear lB1 cB1 fB1
 clear B1 H22 H44 H66
 obtain ⟨BZ,hBZ⟩ : ∃ BZ:Addr,BZ=⟨w6.heap.size,0,none⟩:=⟨_,rfl⟩
 rw [<-hBZ]
 clear hBZ
 generalize w6.alloc _=w3 at *
 go_wp2_with fail
 have HW3:=HW
 clear HW
 go_loopw [6,7] (fun bv iv wr => ∃ (j:Nat) (a:Option Addr) (c:Nat) (S:Foot),j <= nb/\bv = .slice a (oddJ f O j).length c/\iv = .int .i64 j/\OInts wr S (.slice a (oddJ f O j).length c) (natI (oddJ f O j))/\(∀ q,S q -> w3.heap.size <= q)/\Below w3.heap.size w3 wr) (fun _ iv _=>nb - (intOf iv).toNat)
 case atStart=>exact ⟨0,_,0,Foot.none,Nat.zero_le _,rfl,rfl,OInts.nil _,fun q hq=>hq.elim,Below.refl _ _⟩
 case round =>
  obtain ⟨j,a1,c1,S1,hj,rfl,rfl,hoi,hsb,hbw⟩:=hrel
  obtain ⟨nl,hnl⟩ : ∃ nl,nl=(oddJ f O j).length:=⟨_,rfl⟩
  have hnl5:nl <= 512:=by rw [hnl];have:=oddJ_len f O j;omega
  rw [<-hnl] at hoi ⊢
  have HNL:=hd hnl
  have HOI:=hd hoi
  have HSB:=hd hsb
  have HBW:=hd hbw
  have H2R:Hid (Since w2 wr):=hd (H23.out.later hbw)
  have H4R:Hid (Since w4 wr):=hd (H43.out.later hbw)
  have H6R:Hid (Since w6 wr):=hd (H63.out.later hbw)
  have HW:Hid (Below w.heap.size w wr):=hd (HW3.out.trans (hbw.mono HW3.out.size))
  have B1:=hd (B13.out.later hbw)
  clear hnl hoi hsb hbw
  obtain ⟨lB1,cB1,fB1⟩:=B1.out
  by_cases hlt:j < nb
  ·obtain ⟨hpc,hpi⟩:=HPX.out j hlt
   obtain ⟨L,hLd⟩ : ∃ L,L=predN f f.blocks.length 0 j:=⟨_,rfl⟩
   rw [<-hLd] at hpi
   obtain ⟨ra,rc,hre⟩:=hpi.form
   rw [hre] at hpc hpi
   obtain ⟨lp,hlp⟩ : ∃ lp,lp=(natI L).length:=⟨_,rfl⟩
   rw [<-hlp] at hpc hpi
   have hpll:lp <= 512:=by rw [hlp,natI_len,hLd];have:=predN_len f j;have:=HNB.out;omega
   have HLP:=hd hlp
   have HPI:=hd hpi
   have HPC:=hd hpc
   have HLD:=hd hLd
   have hxj:=HGX.out j hlt
   obtain ⟨ij,hij⟩ : ∃ ij,ij=O.idxOf j:=⟨_,rfl⟩
   rw [<-hij] at hxj
   have HXJ:=hd hxj
   have HIJ:=hd hij
   obtain ⟨rj,hrj,hrjl,hrx⟩:=HOX.out j hlt
   have HRJ:=hd hrj
   have HRX:=hd hrx
   clear hpc hpi hlp hLd hre hxj hij hrj hrx
   go_wp2_with fail
   clear lB1 cB1 fB1
   obtain ⟨W1,hW1⟩ : ∃ W1,W1=wr:=⟨_,rfl⟩
   rw [<-hW1] at HOI HBW H2R H4R H6R HW B1 ⊢
   clear hW1
   have HW1:=HW
   clear HW
   go_loopw [8,9] (fun av iv wr => ∃ i:Nat,i <= lp/\av = .bool ((L.take i).any fun p=>oddQ f O j p)/\iv = .int .i64 i/\Below W1.heap.size W1 wr) (fun _ iv _=>lp - (intOf iv).toNat)
   case atStart=>exact ⟨0,Nat.zero_le _,by rw [List.take_zero];rfl,rfl,Below.refl _ _⟩
   case round =>
    obtain ⟨i,hi,rfl,rfl,hl⟩:=hrel
    obtain ⟨is,his⟩ : ∃ is,is=(L.take i).any fun p=>oddQ f O j p:=⟨_,rfl⟩
    rw [<-his]
    have HIS:=hd his
    clear his
    have HL:=hd hl
    have HW:Hid (Below w.heap.size w wr):=hd (HW1.out.trans (hl.mono HW1.out.size))
    have y1:=((H4R.out.later hl).cell (p:=⟨pb,po+j,none⟩) hpbl).trans HPC.out
    by_cases hit:i < lp
    ·obtain ⟨p,hp⟩ : ∃ p,L[i]? = some p:=⟨_,List.getElem?_eq_getElem (by have h9:=HLP.out;rw [natI_len] at h9;omega)⟩
     have hpn:p < nb:=by
      have h9:=List.mem_of_getElem? hp
      rw [HLD.out,predN_zero,List.mem_filter,List.mem_range] at h9
      rw [HNB.out];exact h9.1
     obtain ⟨rb,ro,rc2,he,hrl, -, -,hrx2⟩:=ints_cells HPI.out (by rw [<-HLP.out];omega)
     rw [<-HLP.out] at he hrx2
     injection he with e1 e2 e3
     subst e1
     subst e3
     have y2:=((H4R.out.later hl).cell (p:=⟨rb,ro+i,none⟩) hrl).trans (hrx2 i hit)
     have hgv:(natI L).getD i 0=(p:Int):=by unfold natI;rw [List.getD_eq_getElem?_getD,List.getElem?_map,hp];rfl
     rw [hgv] at y2
     have HNX:Hid (((L.take (i+1)).any fun p=>oddQ f O j p)=(is || oddQ f O j p)):=hd (by rw [take_snoc _ _ _ hp,List.any_append, <-HIS.out];simp)
     have x1:=((H6R.out.later hl).cell (p:=⟨gb,go_+p,none⟩) hgl).trans (HGX.out p hpn)
     have x2:=((H6R.out.later hl).cell (p:=⟨gb,go_+j,none⟩) hgl).trans HXJ.out
     have x3:=((H2R.out.later hl).cell (p:=⟨ob,oo+j,none⟩) hobl).trans HRJ.out
     obtain ⟨xo,hxo,hxi⟩:=HRX.out p hpn
     have x4:=((H2R.out.later hl).cell (p:=⟨rj,p,none⟩) hrjl).trans hxo
     obtain ⟨ip,hip⟩ : ∃ ip,ip=O.idxOf p:=⟨_,rfl⟩
     rw [<-hip] at x1
     have HIP:=hd hip
     have HXI:=hd hxi
     clear hgv hp hrx2 e2 hxo hxi hip hl
     go_upto_region 13 with (fail)
     cases is
     ·by_cases hle:ij <= ip
      ·have ht:decide ((ij:Int) <= (ip:Int))=true:=by simpa using hle
       have HQ:Hid (oddQ f O j p = !xo):=hd (by
        cases xo
        ·rw [oddQ_yes.2 ⟨by rw [<-HIJ.out, <-HIP.out];exact hle,fun h=>by have:=HXI.out.2 h;cases this⟩];rfl
        ·cases hq:oddQ f O j p
         ·rfl
         ·exact absurd (HXI.out.1 rfl) (oddQ_yes.1 hq).2)
       cases xo
       ·go_quiet (fail)
        clear ht y1 y2 x1 x2 x3 x4
        go_wp2
        go_roundw
        case rel=>exact ⟨i+1,hit,by rw [HNX.out,HQ.out];rfl,by go_num,below_drewN HL.out nq⟩
        case measure=>simp [intOf];omega
       ·go_quiet (fail)
        clear ht y1 y2 x1 x2 x3 x4
        go_wp2
        go_roundw
        case rel=>exact ⟨i+1,hit,by rw [HNX.out,HQ.out];rfl,by go_num,below_drewN HL.out nq⟩
        case measure=>simp [intOf];omega
      ·have ht:decide ((ij:Int) <= (ip:Int))=false:=by simpa using hle
       have HQ:Hid (oddQ f O j p=false):=hd (by
        cases hq:oddQ f O j p
        ·rfl
        ·exact absurd (by rw [HIJ.out,HIP.out];exact (oddQ_yes.1 hq).1) hle)
       go_quiet (fail)
       clear ht y1 y2 x1 x2 x3 x4
       go_wp2
       go_roundw
       case rel=>exact ⟨i+1,hit,by rw [HNX.out,HQ.out];rfl,by go_num,below_drewN HL.out nq⟩
       case measure=>simp [intOf];omega
     ·go_quiet (fail)
      clear y1 y2 x1 x2 x3 x4
      go_wp2
      go_roundw
      case rel=>exact ⟨i+1,hit,by rw [HNX.out];rfl,by go_num,below_drewN HL.out nq⟩
      case measure=>simp [intOf];omega
    ·obtain rfl:lp=i:=by omega
     have HOB:Hid (is=oddB f O j):=hd (by
      have h9:=HIS.out
      rw [List.take_of_length_le (by have h8:=HLP.out;rw [natI_len] at h8;omega),HLD.out] at h9
      rw [h9];rfl)
     clear HIS
     cases is
     ·have HNX:=hd (oddJ_no HOB.out.symm)
      go_wp2
      go_roundw
      case rel=>exact ⟨j+1,a1,c1,S1,hlt,by rw [HNX.out, <-HNL.out],by go_num,by rw [HNX.out, <-HNL.out];exact HOI.out.off (Off.of_below HL.out Foot.none) (fun _ _ h=>h),HSB.out,HBW.out.trans (HL.out.mono HBW.out.size)⟩
      case measure=>simp [intOf];omega
     ·have HNX:=hd (oddJ_yes HOB.out.symm)
      have HLL:Hid ((natI (oddJ f O j)).length=nl):=hd (by rw [natI_len, <-HNL.out])
      have HOG:=hd (HOI.out.off (Off.of_below HL.out Foot.none) (fun _ _ h=>h))
      go_wp2_with (at_builtin;go_loud (refine wpList_iapps (ys:=[(j:Int)]) (m:=1) rfl _ _ rfl HLL.out rfl rfl rfl (HOG.out.off (Off.alloc Foot.none _ _) (fun _ _ h=>h)) (ints_of_box (Box.new _ _ _) ⟨by omega,by omega⟩) (by omega) ?_);intro a3 c3 w8 G2 hO hG hof)
      have hnat:natI (oddJ f O j) ++ [(j:Int)]=natI (oddJ f O (j+1)):=by rw [HNX.out];unfold natI;rw [List.map_append];rfl
      rw [hnat] at hO
      have HOO:=hd hO
      have HL2:Hid ((oddJ f O (j+1)).length=nl+1):=hd (by rw [HNX.out,List.length_append, <-HNL.out];rfl)
      have HBB:Hid (Below w3.heap.size w3 wr):=hd (HBW.out.trans (HL.out.mono HBW.out.size))
      have HGB:Hid (∀ q,G2 q -> w3.heap.size <= q):=hd (fun q hq=>by
       rcases hG q hq with h | h
       ·exact HSB.out q h
       ·have:=HBB.out.size;simp at h;omega)
      have HB4:Hid (Below w3.heap.size w3 w8):=hd (HBB.out.trans ((((Below.refl w3.heap.size wr).alloc HBB.out.size _)).trans (hof.below (by have:=HBB.out.size;simp;omega) (fun q _ hq=>HSB.out q hq))))
      clear hO hG hof hnat
      go_roundw
      case rel=>exact ⟨j+1,a3,c3,G2,hlt,by rw [HL2.out],by go_num,by rw [HL2.out];exact HOO.out,HGB.out,HB4.out⟩
      case measure=>simp [intOf];omega
  ·obtain rfl:nb=j:=by omega
   have HE:Hid (oddF f O=oddJ f O nb):=hd (by unfold oddF;rw [<-HNB.out])
   go_wp2
   go_ret
   refine ⟨O,a1,c1,HO.out, ?_, ?_,HW.out⟩
   ·rw [HE.out, <-HNL.out];rfl
   ·rw [HE.out, <-HNL.out];exact HOI.out.ints
end Go.Proofs.YtgmhnepmkaonaaaGreat
