/- Part 48. -/
import Derived.Test.YtcmflfkpeodicaaGreatIRA39
import Derived.Test.YtcmflfkpeodicaaGreatIRA47
namespace Go.Proofs.YtcmflfkpeodicaaGreat
set_option linter.all false
open Go.RowKit
def PRow (f:FuncD) (a b:Nat) (s:List Bool):Prop:=s.length=f.blocks.length /\ ∀ c,s[c]? = some true ↔ (c < b/\c < f.blocks.length/\jX f a c)
theorem PRow.start (f:FuncD) (a:Nat):PRow f a 0 (List.replicate f.blocks.length false):=by
 refine ⟨by simp,fun c=>⟨fun h => ?_,fun h=>by omega⟩⟩
 obtain ⟨h1,h2⟩:=aE.1 h
 simp at h2
theorem PRow.next {f:FuncD} {a b:Nat} {s:List Bool} {x:Bool} (h:PRow f a b s) (hb:b < f.blocks.length) (hx:x=true ↔ jX f a b):PRow f a (b+1) (s.set b x):=by
 refine ⟨by rw [bY];exact h.1,fun c => ?_⟩
 rw [cP]
 by_cases e:b=c
 ·subst e
  rw [if_pos rfl,if_pos (by rw [h.1];exact hb)]
  constructor
  ·intro h1;simp at h1;exact ⟨by omega,hb,hx.1 h1⟩
  rintro ⟨_,_,h1⟩;rw [hx.2 h1]
 rw [if_neg e,h.2 c]
 constructor
 ·rintro ⟨h1,h2⟩;exact ⟨by omega,h2⟩
 rintro ⟨h1,h2⟩;exact ⟨by omega,h2⟩
def pM (nb:Nat) (rs:List Nat):List Value:=rs.map fun r=>Value.slice (some ⟨r,0,none⟩) nb nb
def uI (f:FuncD) (W:World) (v:Value):Prop :=
 ∃ rs:List Nat,rs.length=f.blocks.length/\Row W v f.blocks.length 1 (pM f.blocks.length rs) /\ ∀ (j r:Nat),rs[j]? = some r -> ∃ row,PRow f j f.blocks.length row/\Box W r (fX row)
theorem uI.below {f:FuncD} {W W' : World} {v:Value} (h:uI f W v) (hb:Below W.heap.size W W'):uI f W' v:=by
 obtain ⟨rs,h1,h2,h3⟩:=h
 exact ⟨rs,h1,h2.below hb,fun j r hj=>by obtain ⟨row,h4,h5⟩:=h3 j r hj;exact ⟨row,h4,h5.later hb⟩⟩
theorem uI.parts {f:FuncD} {W:World} {v:Value} (h:uI f W v) (hn:0 < f.blocks.length):∃ cap b off,v = .slice (some ⟨b,off,none⟩) f.blocks.length cap/\f.blocks.length <= cap/\cap <= 9223372036854775807/\b < W.heap.size /\
  ∀ a,a < f.blocks.length -> ∃ r,W.cell? ⟨b,off+a,none⟩=some (.slice (some ⟨r,0,none⟩) f.blocks.length f.blocks.length)/\r < W.heap.size /\ ∀ c,c < f.blocks.length -> ∃ x:Bool,W.cell? ⟨r,c,none⟩=some (.bool x)/\(x=true ↔ jX f a c):=by
 obtain ⟨rs,h1,h2,h3⟩:=h
 obtain ⟨a,cap,b,off,rfl,k1,k2,k3,k4⟩:=h2.parts
 obtain ⟨rfl,hb⟩:=k3 (by unfold pM;rw [bD,h1];exact hn)
 refine ⟨cap,b,off,rfl,k1,by unfold maxLen at k2;omega,hb,fun a ha => ?_⟩
 obtain ⟨r,hr⟩ : ∃ r,rs[a]? = some r:=⟨_,aB (by rw [h1];exact ha)⟩
 obtain ⟨row,hrow,hbx⟩:=h3 a r hr
 refine ⟨r,k4 a _ (by unfold pM;rw [aU,hr];rfl),hbx.lt,fun c hc => ?_⟩
 obtain ⟨x,hx⟩ : ∃ x,row[c]? = some x:=⟨_,aB (by rw [hrow.1];exact hc)⟩
 refine ⟨x,hbx.at c (jQ hx), ?_⟩
 have h9:=hrow.2 c
 rw [hx] at h9
 constructor
 ·intro e;exact (h9.1 (by rw [e])).2.2
 ·intro e;have:=h9.2 ⟨hc,hc,e⟩;simpa using this
theorem aC3:Elem Tryz.prog 122 97 (.slice none 0 0) 1 24:=pI Tryz.underlying122 (by kernel_rfl) rfl (by omega)
set_option maxHeartbeats 12800000 in
set_option maxRecDepth 100000 in
theorem aFU {w:World} {v:Value} {f:FuncD} (hv:gG w v f) (hf:gM f=true):Calls Tryz.prog 63 #[v] w fun e w' => ∃ ov,e = .returned ov/\uI f w' ov/\Below w.heap.size w w':=by
 have HV:=h! hv
 obtain ⟨hn1,hn2⟩:=gV hf
 have HF:=h! hf
 obtain ⟨ap,cp,ab,cb,rfl,hp,ha,hc,hB⟩:=hv.form
 obtain ⟨nb,hnb⟩ : ∃ nb,nb=f.blocks.length:=⟨_,rfl⟩
 rw [<-hnb] at HV hn1 hn2 ⊢
 have HNB:=h! hnb
 have hn0:(0:Int) <= (nb:Int):=by omega
 have hmk:=run_make_row' (P:=Tryz.prog) 97 4 (.bool false) 1 Tryz.underlying97 qO rfl .i64 .i64 nb (by omega) (by omega)
 have HMK:=h! hmk
 clear hp ha hc hB hv hnb hf hmk
 go_enter Tryz.func63,Tryz.ntmps63
 go_upto_region 1 with (fail)
 have hA_:=(Below.refl w.heap.size w).alloc (aF _) (.cells #[.slice ap f.params.length cp,.int .i64 f.arrays,.int .i64 f.cells,.slice ab nb cb] 25)
 have HW:=h! hA_
 clear hA_
 have B1:=h! (Box.new w #[.slice ap f.params.length cp,.int .i64 f.arrays,.int .i64 f.cells,.slice ab nb cb] 25)
 generalize w.alloc (.cells #[.slice ap f.params.length cp,.int .i64 f.arrays,.int .i64 f.cells,.slice ab nb cb] 25)=wv at *
 obtain ⟨lB1,cB1,fB1⟩:=B1.out
 go_wp2_with fail
 refine (nO (gone := -1) (HV.out.below HW.out) HF.out).mono ?_
 rintro e w2 ⟨sv,S,rfl,hS,hBS,hb⟩
 obtain ⟨W2,hW2⟩ : ∃ W2,W2=w2:=⟨_,rfl⟩
 have HS:=h! hS
 obtain ⟨sa,sc,sb,so,hse,hsc,hsm,hsa,hsx⟩:=hBS.parts
 have hSl:S.length=nb:=by rw [hS.1,HNB.out]
 rw [hSl] at hse hsc hsa
 subst hse
 obtain ⟨rfl,hsb⟩:=hsa (by omega)
 have HSX:Hid (∀ (j:Nat) (x:Bool),S[j]? = some x -> W2.cell? ⟨sb,so+j,none⟩=some (.bool x)):=h! (by rw [hW2];exact hsx)
 have HSL:=h! hSl
 rw [<-hW2] at hsb
 clear hS hBS hsx hsa hSl
 clear lB1 cB1 fB1
 replace B1:=h! (B1.out.later hb)
 replace HW:=h! (HW.out.trans (hb.mono HW.out.size))
 clear hb
 obtain ⟨lB1,cB1,fB1⟩:=B1.out
 have HW2:Hid (Below w.heap.size w W2):=h! (by rw [hW2];exact HW.out)
 have HB1:Hid (Box W2 w.heap.size #[.slice ap f.params.length cp,.int .i64 f.arrays,.int .i64 f.cells,.slice ab nb cb]):=h! (by rw [hW2];exact B1.out)
 have HSI:Hid (fG W2 w2):=h! (by rw [hW2];exact Below.refl _ _)
 clear lB1 cB1 fB1
 clear hW2 HW B1
 go_wp2_with fail
 have HO:Hid (Own (w2.alloc (.cells #[] 97)) W2.heap.size [] 97 1 (.slice (some ⟨w2.heap.size,0,none⟩) 0 0) 0 (pM nb [])):=h! (lQ (Below.size HSI.out) (by simp) 1)
 have HS3:Hid (fG W2 (w2.alloc (.cells #[] 97))):=h! (fG.later HSI.out ((Below.refl _ _).alloc (aF _) _))
 generalize w2.alloc _=w3 at *
 go_loopw [4,5] (fun u iv wr => ∃ (a:Nat) (rs:List Nat),a <= nb/\iv = .int .i64 a/\rs.length=a/\Own wr W2.heap.size rs 97 1 u a (pM nb rs)/\(∀ (j r:Nat),rs[j]? = some r -> ∃ row,PRow f j f.blocks.length row/\Box wr r (fX row))/\fG W2 wr) (fun _ iv _=>nb - (intOf iv).toNat)
 case atStart=>exact ⟨0,[],aP _,rfl,rfl,HO.out,by simp,HS3.out⟩
 obtain ⟨a,rs,ha,rfl,hrs,hO,hR,hS⟩:=hrel
 obtain ⟨oa,oc,rfl⟩:=hO.form
 have HRS:=h! hrs
 replace HO:=h! hO
 have HR:=h! hR
 replace HSI:=h! hS
 clear hrs hO hR hS HS3
 generalize wr=w5 at *
 obtain ⟨l1,c1,f1⟩:=HB1.out.later HSI.out
 by_cases hlt:a < nb
 ·go_wp2_with fail
  clear l1 c1 f1
  refine (nO (gone:=(a:Int)) (HV.out.below (HW2.out.trans (Below.mono HSI.out HW2.out.size))) HF.out).mono ?_
  rintro e w6 ⟨tv,T,rfl,hT,hBT,hb6⟩
  have HT:=h! hT
  obtain ⟨ta,tc,tb,to,hte,htc,htm,hta,htx⟩:=hBT.parts
  have hTl:T.length=nb:=by rw [hT.1,HNB.out]
  rw [hTl] at hte htc hta
  subst hte
  obtain ⟨rfl,htb⟩:=hta (by omega)
  have HTX:=h! htx
  have HTL:=h! hTl
  replace HO:=h! (HO.out.later hb6)
  replace HR:Hid (∀ (j r:Nat),rs[j]? = some r -> ∃ row,PRow f j f.blocks.length row/\Box w6 r (fX row)):=h! (fun j r h=>by obtain ⟨row,h1,h2⟩:=HR.out j r h;exact ⟨row,h1,h2.later hb6⟩)
  replace HSI:=h! (fG.later HSI.out hb6)
  clear hT hBT htx hta hTl hb6
  obtain ⟨l1,c1,f1⟩:=HB1.out.later HSI.out
  have hmk:=HMK.out
  go_upto_region 8 with (fail)
  clear l1 c1 f1 hmk
  have hbA:=(Below.refl w6.heap.size w6).alloc (aF _) (.cells (madeCells #[.bool false] nb) 4)
  have HRL:Hid (∀ r ∈ rs,r < w6.heap.size):=h! (fun r hr=>by
   obtain ⟨j,hj⟩:=bJ.1 hr
   obtain ⟨row,_,h⟩:=HR.out j r hj
   exact h.lt)
  have HBR:Hid (Box (w6.alloc (.cells (madeCells #[.bool false] nb) 4)) w6.heap.size (fX (List.replicate nb false))):=h! (by rw [<-lT];exact Box.new _ _ _)
  replace HO:=h! ((HO.out.more (aF _)).later hbA)
  replace HR:Hid (∀ (j r:Nat),rs[j]? = some r -> ∃ row,PRow f j f.blocks.length row/\Box (w6.alloc (.cells (madeCells #[.bool false] nb) 4)) r (fX row)):=h! (fun j r h=>by obtain ⟨row,h1,h2⟩:=HR.out j r h;exact ⟨row,h1,h2.later hbA⟩)
  have HS2:=h! (Below.size HSI.out)
  replace HSI:=h! (fG.later HSI.out hbA)
  have HS6:Hid (Below w6.heap.size w6 (w6.alloc (.cells (madeCells #[.bool false] nb) 4))):=h! hbA
  have HPR:Hid (PRow f a 0 (List.replicate nb false)):=h! (by rw [HNB.out];exact PRow.start f a)
  clear hbA
  generalize w6.alloc _=w7 at *
  go_wp2_with fail
  go_loopw [8] (fun iv wr => ∃ (b:Nat) (s:List Bool),b <= nb/\iv = .int .i64 b/\PRow f a b s/\Box wr w6.heap.size (fX s)/\Own wr W2.heap.size (w6.heap.size :: rs) 97 1 (.slice oa a oc) a (pM nb rs)/\(∀ (j r:Nat),rs[j]? = some r -> ∃ row,PRow f j f.blocks.length row/\Box wr r (fX row))/\fG W2 wr/\Below w6.heap.size w6 wr) (fun iv _=>nb - (intOf iv).toNat)
  case atStart=>exact ⟨0,_,aP _,rfl,HPR.out,HBR.out,HO.out,HR.out,HSI.out,HS6.out⟩
  obtain ⟨b,s,hb,rfl,hP,hBx,hO,hR,hS,h6⟩:=hrel
  replace HPR:=h! hP
  replace HBR:=h! hBx
  replace HO:=h! hO
  replace HR:=h! hR
  replace HSI:=h! hS
  replace HS6:=h! h6
  clear hP hBx hO hR hS h6
  generalize wr=w8 at *
  obtain ⟨l1,c1,f1⟩:=HB1.out.later HSI.out
  by_cases hltb:b < nb
  ·obtain ⟨xa,hxa⟩ : ∃ x,S[a]? = some x:=⟨_,aB (by rw [HSL.out];exact hlt)⟩
   obtain ⟨xb,hxb⟩ : ∃ x,S[b]? = some x:=⟨_,aB (by rw [HSL.out];exact hltb)⟩
   obtain ⟨xt,hxt⟩ : ∃ x,T[b]? = some x:=⟨_,aB (by rw [HTL.out];exact hltb)⟩
   have d1:=(Below.cell HSI.out (p:=⟨sb,so+a,none⟩) hsb).trans (HSX.out a xa hxa)
   have d2:=(Below.cell HSI.out (p:=⟨sb,so+b,none⟩) hsb).trans (HSX.out b xb hxb)
   have d3:=(HS6.out.cell (p:=⟨tb,to+b,none⟩) htb).trans (HTX.out b xt hxt)
   have hov:(xa && (xb && !xt))=true ↔ jX f a b:=by
    have h1:=HS.out.2 a
    have h2:=HS.out.2 b
    have h3:=HT.out.2 b
    rw [hxa] at h1
    rw [hxb] at h2
    rw [hxt] at h3
    unfold jX
    rw [<-h1, <-h2, <-h3]
    simp
   have HOV:=h! hov
   obtain ⟨l2,c2,f2⟩:=HBR.out
   obtain ⟨y,hy⟩ : ∃ y,s[b]? = some y:=⟨_,aB (by rw [HPR.out.1, <-HNB.out];exact hltb)⟩
   have hfl:=jQ hy
   clear hxa hxb hxt hov hy
   have HUP:Hid (∀ x:Bool,(x=true ↔ jX f a b) -> PRow f a (b+1) (s.set b x)/\Box (w8.setCell ⟨w6.heap.size,b,none⟩ (.bool x)) w6.heap.size (fX (s.set b x))/\Own (w8.setCell ⟨w6.heap.size,b,none⟩ (.bool x)) W2.heap.size (w6.heap.size :: rs) 97 1 (.slice oa a oc) a (pM nb rs) /\
     (∀ (j r:Nat),rs[j]? = some r -> ∃ row,PRow f j f.blocks.length row/\Box (w8.setCell ⟨w6.heap.size,b,none⟩ (.bool x)) r (fX row))/\fG W2 (w8.setCell ⟨w6.heap.size,b,none⟩ (.bool x))/\Below w6.heap.size w6 (w8.setCell ⟨w6.heap.size,b,none⟩ (.bool x))):=h! (fun x hx =>
    ⟨HPR.out.next (by rw [<-HNB.out];exact hltb) hx,by have h9:=HBR.out.set b (.bool x);rwa [lV] at h9,HO.out.other _ (by simp),fun j r hj=>by obtain ⟨row,h1,h2⟩:=HR.out j r hj;exact ⟨row,h1,h2.other _ (fun e=>by have:=HRL.out r (aG hj);simp only at e;omega)⟩,
     Below.setCell HSI.out (p:=⟨w6.heap.size,b,none⟩) HS2.out _,HS6.out.setCell (p:=⟨w6.heap.size,b,none⟩) (aF _) _⟩)
   cases xa <;> cases xb <;> cases xt
   all_goals
    go_wp2
    go_roundw
    case rel=>exact ⟨b+1,_,hltb,by go_num,HUP.out _ HOV.out⟩
    simp [intOf];omega
  have hbn:b=nb:=by omega
  have hs8:=Below.size HSI.out
  have hl6:=HBR.out.lt
  have HRX:Hid (∀ r ∈ rs,r < w8.heap.size):=h! (fun r hr=>by have:=HRL.out r hr;omega)
  go_wp2_with (at_builtin;refine fZ rfl _ _ 122 97 rfl aC3 rfl rfl (HO.out.alloc _) (Row.of_box (n:=1) (size:=1) (Box.new _ _ _) rfl (by omega)) (by simp [Value.oneCell']) (by unfold maxLen;omega) (by omega) (by simp;omega) (by intro y hy;simp only [bM] at hy;simp only [World.size_alloc];rcases hy with rfl | hy;omega;have:=HRX.out y hy;omega) ?_;intro v9 w9 hO9 hBs9 hB9;have HO9:=h! hO9;have HB9:=h! hB9;have HS9:=h! hBs9;clear hO9 hBs9 hB9)
  have HRE:Hid (∀ (j r:Nat),(rs ++ [w6.heap.size])[j]? = some r -> ∃ row,PRow f j f.blocks.length row/\Box w9 r (fX row)):=h! (fun j r hj=>by
   rw [dB] at hj
   split at hj
   ·obtain ⟨row,h1,h2⟩:=HR.out j r hj
    exact ⟨row,h1,HS9.out _ _ (by simp [aG hj]) (h2.alloc _)⟩
   rename_i hjl
   have hj0:j=a:=by
    have:=(aE.1 hj).1
    have:=HRS.out
    simp at *;omega
   have hr6:r=w6.heap.size:=by
    have e9:j - rs.length=0:=by have:=HRS.out;omega
    rw [e9] at hj
    simpa using hj.symm
   subst hr6
   refine ⟨s, ?_,HS9.out _ _ (by simp) (HBR.out.alloc _)⟩
   have h9:=HPR.out
   rw [hbn,HNB.out, <-hj0] at h9
   exact h9)
  have HOE:Hid (Own w9 W2.heap.size (rs ++ [w6.heap.size]) 97 1 v9 (a+1) (pM nb (rs ++ [w6.heap.size]))):=h! (by
   have h9:pM nb (rs ++ [w6.heap.size])=pM nb rs ++ [.slice (some ⟨w6.heap.size,0,none⟩) nb nb]:=by simp [pM]
   rw [h9]
   exact HO9.out.less (by intro y hy;simp at hy ⊢;rcases hy with hy | hy <;> simp [hy]))
  have HSE:Hid (fG W2 w9):=h! (Below.trans (fG.later HSI.out ((Below.refl _ _).alloc (aF _) _)) HB9.out)
  clear hbn
  go_roundw
  case rel=>exact ⟨a+1,rs ++ [w6.heap.size],hlt,by go_num,by rw [aQ,HRS.out];rfl,HOE.out,HRE.out,HSE.out⟩
  simp [intOf];omega
 have han:a=nb:=by omega
 have HRES:Hid (uI f w5 (.slice oa a oc)):=h! ⟨rs,by rw [HRS.out,han,HNB.out],by
  have h9:=HO.out.reads (by omega)
  rw [han,HNB.out] at h9
  rw [han,HNB.out];exact h9,HR.out⟩
 have HWE:=h! (HW2.out.trans (Below.mono HSI.out HW2.out.size))
 clear han
 go_wp2
 go_ret
 exact ⟨_,rfl,HRES.out,HWE.out⟩
end Go.Proofs.YtcmflfkpeodicaaGreat
