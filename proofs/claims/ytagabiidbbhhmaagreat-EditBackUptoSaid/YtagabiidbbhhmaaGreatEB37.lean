/- Part 37. -/
import Derived.Test.YtagabiidbbhhmaaGreatEB28
import Derived.Test.YtagabiidbbhhmaaGreatEB36
namespace Go.Proofs.YtagabiidbbhhmaaGreat
set_option maxHeartbeats 12800000
set_option linter.all false
open Go.RowKit
def PRow (f:FuncD) (a b:Nat) (s:List Bool):Prop:=s.length=f.blocks.length /\ ∀ c,s[c]? = some true ↔ (c < b/\c < f.blocks.length/\jW f a c)
theorem PRow.start (f:FuncD) (a:Nat):PRow f a 0 (List.replicate f.blocks.length false):=by
 refine ⟨by simp,fun c=>⟨fun h => ?_,fun h=>by omega⟩⟩
 obtain ⟨h1,h2⟩:=aD.1 h
 simp at h2
theorem PRow.next {f:FuncD} {a b:Nat} {s:List Bool} {x:Bool} (h:PRow f a b s) (hb:b < f.blocks.length) (hx:x=true ↔ jW f a b):PRow f a (b+1) (s.set b x):=by
 refine ⟨by rw [cE];exact h.1,fun c => ?_⟩
 rw [cC]
 by_cases e:b=c
 ·subst e
  rw [if_pos rfl,if_pos (by rw [h.1];exact hb)]
  constructor
  ·intro h1;simp at h1;exact ⟨by omega,hb,hx.1 h1⟩
  rintro ⟨_,_,h1⟩;rw [hx.2 h1]
 rw [if_neg e,h.2 c]
 constructor
 ·rintro ⟨h1,h2⟩;exact ⟨by omega,h2⟩
 rintro ⟨h1,h2⟩;exact ⟨by omega,h2⟩
def oA (nb:Nat) (rs:List Nat):List Value:=rs.map fun r=>Value.slice (some ⟨r,0,none⟩) nb nb
def sJ (f:FuncD) (W:World) (v:Value):Prop :=
 ∃ rs:List Nat,rs.length=f.blocks.length/\Row W v f.blocks.length 1 (oA f.blocks.length rs) /\ ∀ (j r:Nat),rs[j]? = some r -> ∃ row,PRow f j f.blocks.length row/\Box W r (gE row)
theorem sJ.below {f:FuncD} {W W' : World} {v:Value} (h:sJ f W v) (hb:Below W.heap.size W W'):sJ f W' v:=by
 obtain ⟨rs,h1,h2,h3⟩:=h
 exact ⟨rs,h1,h2.below hb,fun j r hj=>by obtain ⟨row,h4,h5⟩:=h3 j r hj;exact ⟨row,h4,h5.later hb⟩⟩
theorem sJ.parts {f:FuncD} {W:World} {v:Value} (h:sJ f W v) (hn:0 < f.blocks.length):∃ cap b off,v = .slice (some ⟨b,off,none⟩) f.blocks.length cap/\f.blocks.length <= cap/\cap <= 9223372036854775807/\b < W.heap.size /\
  ∀ a,a < f.blocks.length -> ∃ r,W.cell? ⟨b,off+a,none⟩=some (.slice (some ⟨r,0,none⟩) f.blocks.length f.blocks.length)/\r < W.heap.size /\ ∀ c,c < f.blocks.length -> ∃ x:Bool,W.cell? ⟨r,c,none⟩=some (.bool x)/\(x=true ↔ jW f a c):=by
 obtain ⟨rs,h1,h2,h3⟩:=h
 obtain ⟨a,cap,b,off,rfl,k1,k2,k3,k4⟩:=h2.parts
 obtain ⟨rfl,hb⟩:=k3 (by unfold oA;rw [bE,h1];exact hn)
 refine ⟨cap,b,off,rfl,k1,by unfold maxLen at k2;omega,hb,fun a ha => ?_⟩
 obtain ⟨r,hr⟩ : ∃ r,rs[a]? = some r:=⟨_,aC (by rw [h1];exact ha)⟩
 obtain ⟨row,hrow,hbx⟩:=h3 a r hr
 refine ⟨r,k4 a _ (by unfold oA;rw [aM,hr];rfl),hbx.lt,fun c hc => ?_⟩
 obtain ⟨x,hx⟩ : ∃ x,row[c]? = some x:=⟨_,aC (by rw [hrow.1];exact hc)⟩
 refine ⟨x,hbx.at c (jM hx), ?_⟩
 have h9:=hrow.2 c
 rw [hx] at h9
 constructor
 ·intro e;exact (h9.1 (by rw [e])).2.2
 ·intro e;have:=h9.2 ⟨hc,hc,e⟩;simpa using this
theorem aBB:Elem Tryz.prog 140 124 (.slice none 0 0) 1 24:=lY Tryz.underlying140 (by kernel_rfl) rfl (by omega)
set_option maxRecDepth 100000 in
theorem aC4 {w:World} {v:Value} {f:FuncD} (hv:fJ w v f) (hf:gS f=true):Calls Tryz.prog 77 #[v] w fun e w' => ∃ ov,e = .returned ov/\sJ f w' ov/\Below w.heap.size w w':=by
 have HV:=h! hv
 obtain ⟨hn1,hn2⟩:=iJ hf
 have HF:=h! hf
 obtain ⟨ap,cp,ab,cb,rfl,hp,ha,hc,hB⟩:=hv.form
 obtain ⟨nb,hnb⟩ : ∃ nb,nb=f.blocks.length:=⟨_,rfl⟩
 rw [<-hnb] at HV hn1 hn2 ⊢
 have HNB:=h! hnb
 have hn0:(0:Int) <= (nb:Int):=by omega
 have hmk:=run_make_row' (P:=Tryz.prog) 124 4 (.bool false) 1 Tryz.underlying124 qP rfl .i64 .i64 nb (by omega) (by omega)
 have HMK:=h! hmk
 clear hp ha hc hB hv hnb hf hmk
 go_enter Tryz.func77,Tryz.ntmps77
 go_upto_region 1 with (fail)
 have hA_:=(Below.refl w.heap.size w).alloc (aA _) (.cells #[.slice ap f.params.length cp,.int .i64 f.arrays,.int .i64 f.cells,.slice ab nb cb] 25)
 have HW:=h! hA_
 clear hA_
 have B1:=h! (Box.new w #[.slice ap f.params.length cp,.int .i64 f.arrays,.int .i64 f.cells,.slice ab nb cb] 25)
 generalize w.alloc (.cells #[.slice ap f.params.length cp,.int .i64 f.arrays,.int .i64 f.cells,.slice ab nb cb] 25)=wv at *
 obtain ⟨lB1,cB1,fB1⟩:=B1.out
 go_wp2_with fail
 refine (nH (gone := -1) (HV.out.below HW.out) HF.out).mono ?_
 rintro e w2 ⟨sv,S,rfl,hS,hBS,hb⟩
 obtain ⟨W2,hW2⟩ : ∃ W2,W2=w2:=⟨_,rfl⟩
 have HS:=h! hS
 obtain ⟨sa,sc,sb,so,hse,hsc,hsm,hsa,hsx⟩:=hBS.parts
 have hSl:S.length=nb:=by rw [hS.1,HNB.out]
 rw [hSl] at hse hsc hsa
 subst hse
 obtain ⟨rfl,hsb⟩:=hsa (by omega)
 have HSX:Hid (∀ (j:Nat) (x:Bool),S[j]? = some x -> W2.cell? ⟨sb,so+j,none⟩=some (.bool x)):=h! (by rw [hW2];exact hsx)
 have HSL:=h! hSl
 rw [<-hW2] at hsb
 clear hS hBS hsx hsa hSl
 clear lB1 cB1 fB1
 replace B1:=h! (B1.out.later hb)
 replace HW:=h! (HW.out.trans (hb.mono HW.out.size))
 clear hb
 obtain ⟨lB1,cB1,fB1⟩:=B1.out
 have HW2:Hid (Below w.heap.size w W2):=h! (by rw [hW2];exact HW.out)
 have HB1:Hid (Box W2 w.heap.size #[.slice ap f.params.length cp,.int .i64 f.arrays,.int .i64 f.cells,.slice ab nb cb]):=h! (by rw [hW2];exact B1.out)
 have HSI:Hid (fQ W2 w2):=h! (by rw [hW2];exact Below.refl _ _)
 clear lB1 cB1 fB1
 clear hW2 HW B1
 go_wp2_with fail
 have HO:Hid (Own (w2.alloc (.cells #[] 124)) W2.heap.size [] 124 1 (.slice (some ⟨w2.heap.size,0,none⟩) 0 0) 0 (oA nb [])):=h! (jO (Below.size HSI.out) (by simp) 1)
 have HS3:Hid (fQ W2 (w2.alloc (.cells #[] 124))):=h! (fQ.later HSI.out ((Below.refl _ _).alloc (aA _) _))
 generalize w2.alloc _=w3 at *
 go_loopw [4,5] (fun u iv wr => ∃ (a:Nat) (rs:List Nat),a <= nb/\iv = .int .i64 a/\rs.length=a/\Own wr W2.heap.size rs 124 1 u a (oA nb rs)/\(∀ (j r:Nat),rs[j]? = some r -> ∃ row,PRow f j f.blocks.length row/\Box wr r (gE row))/\fQ W2 wr) (fun _ iv _=>nb - (intOf iv).toNat)
 case atStart=>exact ⟨0,[],aJ _,rfl,rfl,HO.out,by simp,HS3.out⟩
 obtain ⟨a,rs,ha,rfl,hrs,hO,hR,hS⟩:=hrel
 obtain ⟨oa,oc,rfl⟩:=hO.form
 have HRS:=h! hrs
 replace HO:=h! hO
 have HR:=h! hR
 replace HSI:=h! hS
 clear hrs hO hR hS HS3
 generalize wr=w5 at *
 obtain ⟨l1,c1,f1⟩:=HB1.out.later HSI.out
 by_cases hlt:a < nb
 ·go_wp2_with fail
  clear l1 c1 f1
  refine (nH (gone:=(a:Int)) (HV.out.below (HW2.out.trans (Below.mono HSI.out HW2.out.size))) HF.out).mono ?_
  rintro e w6 ⟨tv,T,rfl,hT,hBT,hb6⟩
  have HT:=h! hT
  obtain ⟨ta,tc,tb,to,hte,htc,htm,hta,htx⟩:=hBT.parts
  have hTl:T.length=nb:=by rw [hT.1,HNB.out]
  rw [hTl] at hte htc hta
  subst hte
  obtain ⟨rfl,htb⟩:=hta (by omega)
  have HTX:=h! htx
  have HTL:=h! hTl
  replace HO:=h! (HO.out.later hb6)
  replace HR:Hid (∀ (j r:Nat),rs[j]? = some r -> ∃ row,PRow f j f.blocks.length row/\Box w6 r (gE row)):=h! (fun j r h=>by obtain ⟨row,h1,h2⟩:=HR.out j r h;exact ⟨row,h1,h2.later hb6⟩)
  replace HSI:=h! (fQ.later HSI.out hb6)
  clear hT hBT htx hta hTl hb6
  obtain ⟨l1,c1,f1⟩:=HB1.out.later HSI.out
  have hmk:=HMK.out
  go_upto_region 8 with (fail)
  clear l1 c1 f1 hmk
  have hbA:=(Below.refl w6.heap.size w6).alloc (aA _) (.cells (madeCells #[.bool false] nb) 4)
  have HRL:Hid (∀ r ∈ rs,r < w6.heap.size):=h! (fun r hr=>by
   obtain ⟨j,hj⟩:=bJ.1 hr
   obtain ⟨row,_,h⟩:=HR.out j r hj
   exact h.lt)
  have HBR:Hid (Box (w6.alloc (.cells (madeCells #[.bool false] nb) 4)) w6.heap.size (gE (List.replicate nb false))):=h! (by rw [<-lO];exact Box.new _ _ _)
  replace HO:=h! ((HO.out.more (aA _)).later hbA)
  replace HR:Hid (∀ (j r:Nat),rs[j]? = some r -> ∃ row,PRow f j f.blocks.length row/\Box (w6.alloc (.cells (madeCells #[.bool false] nb) 4)) r (gE row)):=h! (fun j r h=>by obtain ⟨row,h1,h2⟩:=HR.out j r h;exact ⟨row,h1,h2.later hbA⟩)
  have HS2:=h! (Below.size HSI.out)
  replace HSI:=h! (fQ.later HSI.out hbA)
  have HS6:Hid (Below w6.heap.size w6 (w6.alloc (.cells (madeCells #[.bool false] nb) 4))):=h! hbA
  have HPR:Hid (PRow f a 0 (List.replicate nb false)):=h! (by rw [HNB.out];exact PRow.start f a)
  clear hbA
  generalize w6.alloc _=w7 at *
  go_wp2_with fail
  go_loopw [8] (fun iv wr => ∃ (b:Nat) (s:List Bool),b <= nb/\iv = .int .i64 b/\PRow f a b s/\Box wr w6.heap.size (gE s)/\Own wr W2.heap.size (w6.heap.size :: rs) 124 1 (.slice oa a oc) a (oA nb rs)/\(∀ (j r:Nat),rs[j]? = some r -> ∃ row,PRow f j f.blocks.length row/\Box wr r (gE row))/\fQ W2 wr/\Below w6.heap.size w6 wr) (fun iv _=>nb - (intOf iv).toNat)
  case atStart=>exact ⟨0,_,aJ _,rfl,HPR.out,HBR.out,HO.out,HR.out,HSI.out,HS6.out⟩
  obtain ⟨b,s,hb,rfl,hP,hBx,hO,hR,hS,h6⟩:=hrel
  replace HPR:=h! hP
  replace HBR:=h! hBx
  replace HO:=h! hO
  replace HR:=h! hR
  replace HSI:=h! hS
  replace HS6:=h! h6
  clear hP hBx hO hR hS h6
  generalize wr=w8 at *
  obtain ⟨l1,c1,f1⟩:=HB1.out.later HSI.out
  by_cases hltb:b < nb
  ·obtain ⟨xa,hxa⟩ : ∃ x,S[a]? = some x:=⟨_,aC (by rw [HSL.out];exact hlt)⟩
   obtain ⟨xb,hxb⟩ : ∃ x,S[b]? = some x:=⟨_,aC (by rw [HSL.out];exact hltb)⟩
   obtain ⟨xt,hxt⟩ : ∃ x,T[b]? = some x:=⟨_,aC (by rw [HTL.out];exact hltb)⟩
   have d1:=(Below.cell HSI.out (p:=⟨sb,so+a,none⟩) hsb).trans (HSX.out a xa hxa)
   have d2:=(Below.cell HSI.out (p:=⟨sb,so+b,none⟩) hsb).trans (HSX.out b xb hxb)
   have d3:=(HS6.out.cell (p:=⟨tb,to+b,none⟩) htb).trans (HTX.out b xt hxt)
   have hov:(xa && (xb && !xt))=true ↔ jW f a b:=by
    have h1:=HS.out.2 a
    have h2:=HS.out.2 b
    have h3:=HT.out.2 b
    rw [hxa] at h1
    rw [hxb] at h2
    rw [hxt] at h3
    unfold jW
    rw [<-h1, <-h2, <-h3]
    simp
   have HOV:=h! hov
   obtain ⟨l2,c2,f2⟩:=HBR.out
   obtain ⟨y,hy⟩ : ∃ y,s[b]? = some y:=⟨_,aC (by rw [HPR.out.1, <-HNB.out];exact hltb)⟩
   have hfl:=jM hy
   clear hxa hxb hxt hov hy
   have HUP:Hid (∀ x:Bool,(x=true ↔ jW f a b) -> PRow f a (b+1) (s.set b x)/\Box (w8.setCell ⟨w6.heap.size,b,none⟩ (.bool x)) w6.heap.size (gE (s.set b x))/\Own (w8.setCell ⟨w6.heap.size,b,none⟩ (.bool x)) W2.heap.size (w6.heap.size :: rs) 124 1 (.slice oa a oc) a (oA nb rs) /\
     (∀ (j r:Nat),rs[j]? = some r -> ∃ row,PRow f j f.blocks.length row/\Box (w8.setCell ⟨w6.heap.size,b,none⟩ (.bool x)) r (gE row))/\fQ W2 (w8.setCell ⟨w6.heap.size,b,none⟩ (.bool x))/\Below w6.heap.size w6 (w8.setCell ⟨w6.heap.size,b,none⟩ (.bool x))):=h! (fun x hx =>
    ⟨HPR.out.next (by rw [<-HNB.out];exact hltb) hx,by have h9:=HBR.out.set b (.bool x);rwa [lQ] at h9,HO.out.other _ (by simp),fun j r hj=>by obtain ⟨row,h1,h2⟩:=HR.out j r hj;exact ⟨row,h1,h2.other _ (fun e=>by have:=HRL.out r (aG hj);simp only at e;omega)⟩,
     Below.setCell HSI.out (p:=⟨w6.heap.size,b,none⟩) HS2.out _,HS6.out.setCell (p:=⟨w6.heap.size,b,none⟩) (aA _) _⟩)
   cases xa <;> cases xb <;> cases xt
   all_goals
    go_wp2
    go_roundw
    case rel=>exact ⟨b+1,_,hltb,by go_num,HUP.out _ HOV.out⟩
    simp [intOf];omega
  have hbn:b=nb:=by omega
  have hs8:=Below.size HSI.out
  have hl6:=HBR.out.lt
  have HRX:Hid (∀ r ∈ rs,r < w8.heap.size):=h! (fun r hr=>by have:=HRL.out r hr;omega)
  go_wp2_with (at_builtin;refine fE rfl _ _ 140 124 rfl aBB rfl rfl (HO.out.alloc _) (Row.of_box (n:=1) (size:=1) (Box.new _ _ _) rfl (by omega)) (by simp [Value.oneCell']) (by unfold maxLen;omega) (by omega) (by simp;omega) (by intro y hy;simp only [bP] at hy;simp only [World.size_alloc];rcases hy with rfl | hy;omega;have:=HRX.out y hy;omega) ?_;intro v9 w9 hO9 hBs9 hB9;have HO9:=h! hO9;have HB9:=h! hB9;have HS9:=h! hBs9;clear hO9 hBs9 hB9)
  have HRE:Hid (∀ (j r:Nat),(rs ++ [w6.heap.size])[j]? = some r -> ∃ row,PRow f j f.blocks.length row/\Box w9 r (gE row)):=h! (fun j r hj=>by
   rw [cV] at hj
   split at hj
   ·obtain ⟨row,h1,h2⟩:=HR.out j r hj
    exact ⟨row,h1,HS9.out _ _ (by simp [aG hj]) (h2.alloc _)⟩
   rename_i hjl
   have hj0:j=a:=by
    have:=(aD.1 hj).1
    have:=HRS.out
    simp at *;omega
   have hr6:r=w6.heap.size:=by
    have e9:j - rs.length=0:=by have:=HRS.out;omega
    rw [e9] at hj
    simpa using hj.symm
   subst hr6
   refine ⟨s, ?_,HS9.out _ _ (by simp) (HBR.out.alloc _)⟩
   have h9:=HPR.out
   rw [hbn,HNB.out, <-hj0] at h9
   exact h9)
  have HOE:Hid (Own w9 W2.heap.size (rs ++ [w6.heap.size]) 124 1 v9 (a+1) (oA nb (rs ++ [w6.heap.size]))):=h! (by
   have h9:oA nb (rs ++ [w6.heap.size])=oA nb rs ++ [.slice (some ⟨w6.heap.size,0,none⟩) nb nb]:=by simp [oA]
   rw [h9]
   exact HO9.out.less (by intro y hy;simp at hy ⊢;rcases hy with hy | hy <;> simp [hy]))
  have HSE:Hid (fQ W2 w9):=h! (Below.trans (fQ.later HSI.out ((Below.refl _ _).alloc (aA _) _)) HB9.out)
  clear hbn
  go_roundw
  case rel=>exact ⟨a+1,rs ++ [w6.heap.size],hlt,by go_num,by rw [aI,HRS.out];rfl,HOE.out,HRE.out,HSE.out⟩
  simp [intOf];omega
 have han:a=nb:=by omega
 have HRES:Hid (sJ f w5 (.slice oa a oc)):=h! ⟨rs,by rw [HRS.out,han,HNB.out],by
  have h9:=HO.out.reads (by omega)
  rw [han,HNB.out] at h9
  rw [han,HNB.out];exact h9,HR.out⟩
 have HWE:=h! (HW2.out.trans (Below.mono HSI.out HW2.out.size))
 clear han
 go_wp2
 go_ret
 exact ⟨_,rfl,HRES.out,HWE.out⟩
def fR (xs:List Int) (p:PhiD):Bool:=decide (p.src.length=xs.length) && xs.all fun t=>p.src.contains t
set_option maxRecDepth 100000 in
theorem aC5 {w:World} {pv A1 A2 A3 A4 A5 u:Value} {ps:List PhiD} {xs:List Int} (hp:eT PhiR 4 w pv ps) (hu:Ints w u xs) :
  Calls Tryz.prog 76 #[.agg #[pv,A1,A2,A3,A4,A5],u] w fun e w'=>e = .returned (.bool (ps.all (fR xs)))/\Below w.heap.size w w':=by
 obtain ⟨a1,c1,b1,o1,rfl,hc1,hm1,hl1,ha1,hx⟩:=fH hp
 have hul16:=hu.le
 obtain ⟨ua,uc,ub,uo,rfl,huc,hum,hua,hux⟩:=hu.parts
 obtain ⟨pl,hpl⟩ : ∃ n,n=ps.length:=⟨_,rfl⟩
 obtain ⟨ul,hul⟩ : ∃ n,n=xs.length:=⟨_,rfl⟩
 rw [<-hpl] at hc1 hl1 ha1 ⊢
 rw [<-hul] at huc hua hux hul16 ⊢
 have HPL:=h! hpl
 have HUL:=h! hul
 have HA1:=h! ha1
 have HX:=h! hx
 have HUA:=h! hua
 have HUX:=h! hux
 clear hp hu hpl hul ha1 hx hua hux
 go_enter Tryz.func76,Tryz.ntmps76
 go_upto_region 1 with (fail)
 have hA_:=(Below.refl w.heap.size w).alloc (aA _) (.cells #[.slice a1 pl c1,A1,A2,A3,A4,A5] 63)
 have HW:=h! hA_
 clear hA_
 have B1:=h! (Box.new w #[.slice a1 pl c1,A1,A2,A3,A4,A5] 63)
 generalize w.alloc (.cells #[.slice a1 pl c1,A1,A2,A3,A4,A5] 63)=wv at *
 obtain ⟨lB1,cB1,fB1⟩:=B1.out
 go_wp2_with fail
 go_loopw [5] (fun i wr => ∃ j:Nat,j <= pl/\i = .int .i64 j/\(ps.take j).all (fR xs)=true/\Below w.heap.size w wr/\Box wr w.heap.size #[.slice a1 pl c1,A1,A2,A3,A4,A5]) (fun i _=>pl - (intOf i).toNat)
 case atStart=>exact ⟨0,aJ _,rfl,rfl,HW.out,B1.out⟩
 case round =>
  obtain ⟨j,hj,rfl,hs,hW,h1⟩:=hrel
  clear lB1 cB1 fB1
  have HS:=h! hs
  replace HW:=h! hW
  replace B1:=h! h1
  clear hs hW h1
  generalize wr=w3 at *
  obtain ⟨lB1,cB1,fB1⟩:=B1.out
  by_cases hlt:j < pl
  ·obtain ⟨rfl,hb1⟩:=HA1.out (by omega)
   obtain ⟨p,hxm⟩ : ∃ p,ps[j]? = some p:=⟨_,aC (by have:=HPL.out;omega)⟩
   obtain ⟨af,av,cf,cv,hP⟩:=HX.out j p hxm
   obtain ⟨m0,m1,m2,m3,r1,r2,r3,r4⟩:=hP.below HW.out hb1
   have HXM:=h! (aG hxm)
   have HTK:=h! (eP ps j p hxm)
   have HC2:=h! hP.c2
   have HSRC:=h! hP.src
   obtain ⟨sl,hsl⟩ : ∃ sl,sl=p.src.length:=⟨_,rfl⟩
   rw [<-hsl] at HC2 HSRC m2
   have HSL:=h! hsl
   have hsl16:sl <= 17592186044416:=by rw [hsl];exact hP.src.le
   clear hxm hP r1 r2 r3 r4 m0 m1 m3 hsl
   by_cases hlen:sl=ul
   ·have hq:((sl:Int) != (ul:Int))=false:=by simp [hlen]
    have HLEN:Hid (p.src.length=xs.length):=h! (by rw [<-HSL.out, <-HUL.out];exact hlen)
    clear hlen
    go_wp2_with fail
    clear m2
    go_loopw [6] (fun i wr => ∃ t:Nat,t <= ul/\i = .int .i64 t/\((xs.take t).all fun t=>p.src.contains t)=true/\Below w.heap.size w wr/\Box wr w.heap.size #[.slice (some ⟨b1,o1,none⟩) pl c1,A1,A2,A3,A4,A5]) (fun i _=>ul - (intOf i).toNat)
    case atStart=>exact ⟨0,aJ _,rfl,rfl,HW.out,B1.out⟩
    obtain ⟨t,ht,rfl,hs,hW,h1⟩:=hrel
    clear lB1 cB1 fB1
    have HS2:=h! hs
    replace HW:=h! hW
    replace B1:=h! h1
    clear hs hW h1
    generalize wr=w5 at *
    obtain ⟨lB1,cB1,fB1⟩:=B1.out
    by_cases hltt:t < ul
    ·obtain ⟨rfl,hub⟩:=HUA.out (by omega)
     obtain ⟨y,hy⟩ : ∃ y,y=xs.getD t 0:=⟨_,rfl⟩
     have CU:=h! ((HW.out.cell (p:=⟨ub,uo+t,none⟩) hub).trans (HUX.out t hltt))
     rw [<-hy] at CU
     have hym:xs[t]? = some y:=by rw [hy];exact eZ xs t (by have:=HUL.out;omega)
     have HTK2:=h! (eP xs t y hym)
     have HYM:=h! (aG hym)
     have CUl:=World.block_lt_of_cell? w5 _ CU.out
     have CS:=h! ((HW.out.cell (p:=⟨b1,o1+j * 4+2,none⟩) hb1).trans HC2.out)
     have CSl:=World.block_lt_of_cell? w5 _ CS.out
     obtain ⟨c,hc⟩ : ∃ c,c=p.src.contains y:=⟨_,rfl⟩
     have HC:=h! hc
     have HCT:Hid (∀ wg,Below w5.heap.size w5 wg -> Calls Tryz.prog 32 #[.slice af sl cf,.int .i64 y] wg fun e w'=>e = .returned (.bool c)/\Below wg.heap.size wg w'):=h! (fun wg hbg=>by
      rw [hc]
      exact (aC1 (x:=y) (HSRC.out.below (HW.out.trans (hbg.mono HW.out.size)))).mono (fun e w2 ⟨h1,h2⟩=>⟨h1,h2 ▸ Below.refl _ _⟩))
     clear hy hym hc
     go_upto_region 9 with (fail)
     refine wp_region_grow 12 (fun kz=>match kz with | 10=>.const (.bool c) | _=>.plain) (by kernel_rfl) (by kernel_rfl) ?_ (fun ν => ?_)
     ·(intro k;(try dsimp only);split <;> first | exact True.intro | (intro u w1 w2 hu hb;exact hu.below hb))
     simp only [aQ,aU,aT,aY]
     iterate 10 (refine Grow.val (v := ?_) rfl rfl (fun wg hbg hdg => ?_) ?_;rotate_left;(focus ((obtain ⟨lg0,cg0,fg0⟩:=B1.out.later hbg);(have hcl:=(hbg.cell (p:=⟨ub,uo+t,none⟩) CUl).trans CU.out;have hcr:=(hbg.cell (p:=⟨b1,o1+j * 4+2,none⟩) CSl).trans CS.out);clear hbg hdg;first | (go_simp;done) | (go_simp;with_reducible rfl)));simp only [Act.put,aB,aE,aF])
     refine Grow.call (f := ?_) (args := ?_) rfl (fun wg => ?_) (fun wg hbg hdg => ?_) ?_
     rotate_left 2
     focus (first | (go_simp;done) | (go_simp;refine And.intro ?_ ?_ <;> with_reducible rfl) | (go_simp;with_reducible rfl))
     focus exact Calls.mono (HCT.out wg hbg) (fun e w2 ⟨he,hb2⟩=>⟨_,he,rfl,hb2⟩)
     simp only [Act.put,Known.val,aB,aE,aF]
     refine Grow.val (v := ?_) rfl rfl (fun wg hbg hdg => ?_) ?_
     rotate_left
     focus ((obtain ⟨lg0,cg0,fg0⟩:=B1.out.later hbg);(have hcl:=(hbg.cell (p:=⟨ub,uo+t,none⟩) CUl).trans CU.out;have hcr:=(hbg.cell (p:=⟨b1,o1+j * 4+2,none⟩) CSl).trans CS.out);clear hbg hdg;first | (go_simp;done) | (go_simp;with_reducible rfl))
     simp only [Act.put,aB,aE,aF]
     intro wg hb hf hap
     clear hap
     clear lB1 cB1 fB1
     replace B1:=h! (B1.out.later hb)
     replace HW:=h! (HW.out.trans (hb.mono HW.out.size))
     clear hb
     obtain ⟨lB1,cB1,fB1⟩:=B1.out
     clear hf
     cases c
     ·have HNO:Hid (ps.all (fR xs)=false):=h! (by
       rw [cD]
       refine ⟨p,HXM.out, ?_⟩
       unfold fR
       rw [aK,not_and]
       intro _ h
       rw [bB] at h
       have:=h y HYM.out
       rw [<-HC.out] at this
       cases this)
      go_wp2
      go_ret
      exact ⟨gM HNO.out.symm,HW.out⟩
     have HNX:Hid (((xs.take (t+1)).all fun t=>p.src.contains t)=true):=h! (by rw [HTK2.out,List.all_append,HS2.out];simpa using HC.out.symm)
     go_wp2
     go_roundw
     case rel=>exact ⟨t+1,hltt,by go_num,HNX.out,HW.out,B1.out⟩
     simp [intOf];omega
    have HNX:Hid ((ps.take (j+1)).all (fR xs)=true):=h! (by
     rw [HTK.out,dH,HS.out]
     have h9:=HS2.out
     rw [aH (by have:=HUL.out;omega)] at h9
     simp only [List.all_cons,List.all_nil,Bool.and_true,bL]
     unfold fR
     rw [h9,decide_eq_true HLEN.out];rfl)
    go_wp2
    go_roundw
    case rel=>exact ⟨j+1,hlt,by go_num,HNX.out,HW.out,B1.out⟩
    simp [intOf];omega
   have hq:((sl:Int) != (ul:Int))=true:=by simp;omega
   have HNO:Hid (ps.all (fR xs)=false):=h! (by
    rw [cD]
    refine ⟨p,HXM.out, ?_⟩
    unfold fR
    rw [decide_eq_false (by rw [<-HSL.out, <-HUL.out];exact hlen)]
    simp)
   clear hlen
   go_wp2
   go_ret
   exact ⟨gM HNO.out.symm,HW.out⟩
  have HYES:Hid (ps.all (fR xs)=true):=h! (by have h9:=HS.out;rw [aH (by have:=HPL.out;omega)] at h9;exact h9)
  go_wp2
  go_ret
  exact ⟨gM HYES.out.symm,HW.out⟩
theorem xS {f:FuncD} (hn:1 <= f.blocks.length) {e:Int × Int × Int} (he:e ∈ entF f):0 <= e.2.1/\e.2.1 < (f.blocks.length:Int):=by
 unfold entF at he
 rcases aN.1 he with he | he
 ·unfold parN at he
  rw [aX] at he
  obtain ⟨j,_,rfl⟩:=he
  exact ⟨by show (0:Int) <= 0;omega,by show (0:Int) < _;omega⟩
 unfold blkN at he
 rw [cZ] at he
 obtain ⟨⟨x,c⟩,hx,he⟩:=he
 rw [cO,bT] at hx
 have hc:c < f.blocks.length:=(aD.1 hx).1
 unfold entB at he
 have hd:e.2.1=(c:Int):=by
  rcases aN.1 he with he | he
  ·unfold phiN at he
   rw [aX] at he
   obtain ⟨p,_,rfl⟩:=he
   rfl
  unfold codN at he
  rw [List.mem_filterMap] at he
  obtain ⟨y,_,hy⟩:=he
  split at hy
  ·cases hy;rfl
  cases hy
 rw [hd]
 omega
theorem mD {f:FuncD} (hc:eS f=0) {u:UseD} (hu:u ∈ uxF f):∃ d k,((entF f).find? fun e=>e.1 == u.id)=some (u.id,d,k)/\0 <= d/\d < (f.blocks.length:Int):=by
 obtain ⟨h1,h2⟩:=fA hc
 have hev:=jJ h1
 have hp:u.pair ∈ nE f:=by rw [<-tT hev];exact aX.2 ⟨u,hu,rfl⟩
 have h3:kI (eQ f) (nE f)=0:=by
  unfold eS at hc
  rw [if_pos (by rw [h1,h2];rfl)] at hc
  exact hc
 have h4:(nE f).any (fun u => !(tyOf (eQ f) u.1).isSome)=false:=by
  unfold kI at h3
  cases h:(nE f).any (fun u => !(tyOf (eQ f) u.1).isSome) with
  | false=>rfl
  | true=>rw [h,if_pos rfl] at h3;omega
 rw [List.any_eq_false] at h4
 have h5:=h4 u.pair hp
 have h6:u.id ∈ (entF f).map (·.1):=by
  rw [qL hc]
  refine Classical.byContradiction fun h => ?_
  have h7:=iB.2 h
  have h8:u.pair.1=u.id:=rfl
  rw [h8,h7] at h5
  exact h5 rfl
 obtain ⟨e,he,hid⟩:=aX.1 h6
 cases hf:((entF f).find? fun e=>e.1 == u.id) with
 | none =>
  rw [List.find?_eq_none] at hf
  exact absurd (by simp [hid]) (hf e he)
 | some e2 =>
  have h9:=List.find?_some hf
  have h10:=eI hf
  simp only [beq_iff_eq] at h9
  obtain ⟨r1,r2⟩:=xS (iJ h1).1 h10
  obtain ⟨i,d,k⟩:=e2
  simp only at h9
  subst h9
  exact ⟨d,k,rfl,r1,r2⟩
theorem qS {f:FuncD} (h:gS f=true) {u:UseD} (hu:u ∈ uxF f):0 <= u.blk/\u.blk < (f.blocks.length:Int)/\(u.pos < 0 -> 0 <= u.src/\u.src < (f.blocks.length:Int)):=by
 unfold uxF at hu
 rw [cZ] at hu
 obtain ⟨⟨x,c⟩,hx,hu⟩:=hu
 have hx2:=hx
 rw [bT] at hx
 have hc:c < f.blocks.length:=(aD.1 hx).1
 unfold gS at h
 simp only [aK,bB] at h
 have hok:=h.2 (x,c) hx2
 unfold fX at hok
 simp only [aK,bB] at hok
 unfold uxB at hu
 rw [bN] at hu
 rcases aN.1 hu with hu | hu
 ·rw [cZ] at hu
  obtain ⟨p,hp,hu⟩:=hu
  have hpk:=hok.1.1.2 p hp
  unfold iL at hpk
  simp only [aK,bB] at hpk
  unfold uxP at hu
  rw [aX] at hu
  obtain ⟨vs,hvs,rfl⟩:=hu
  have hs:=List.of_mem_zip hvs
  have hn:=hpk.1.2 vs.2 hs.2
  unfold numB at hn
  simp at hn
  exact ⟨by show (0:Int) <= (c:Int);omega,by show (c:Int) < _;omega,fun _=>hn⟩
 rcases aN.1 hu with hu | hu
 ·rw [cZ] at hu
  obtain ⟨yk,hy,hu⟩:=hu
  unfold uxI at hu
  rw [aX] at hu
  obtain ⟨a,ha,rfl⟩:=hu
  exact ⟨by show (0:Int) <= (c:Int);omega,by show (c:Int) < _;omega,fun h=>by exfalso;have h:((yk.2:Nat):Int) < 0:=h;omega⟩
 unfold uxT at hu
 split at hu
 ·simp at hu
  subst hu
  exact ⟨by show (0:Int) <= (c:Int);omega,by show (c:Int) < _;omega,fun h=>by exfalso;have h:((x.code.length:Nat):Int) < 0:=h;omega⟩
 split at hu
 ·simp at hu
  subst hu
  exact ⟨by show (0:Int) <= (c:Int);omega,by show (c:Int) < _;omega,fun h=>by exfalso;have h:((x.code.length:Nat):Int) < 0:=h;omega⟩
 simp at hu
def gR (f:FuncD) (u:UseD):Prop := ∃ d k,((entF f).find? fun e=>e.1 == u.id)=some (u.id,d,k) /\
 ((u.pos < 0/\jW f d.toNat u.src.toNat) \/ (¬ u.pos < 0/\kD f d k u.blk u.pos))
def fZ (f : FuncD) (b e : Int) : Prop :=
  (∃ c : Nat, c < f.blocks.length ∧ ¬ Way (toB f) (-1) c ∧ (∀ d, d < c → Way (toB f) (-1) d) ∧ b = c ∧ e = 4) ∨
  ((∀ d, d < f.blocks.length → Way (toB f) (-1) d) ∧
    ((∃ (c : Nat) (x : BlockD), f.blocks[c]? = some x ∧ x.phis.all (fR (natI (fV f f.blocks.length 0 c))) = false ∧ (∀ (d : Nat) (y : BlockD), d < c → f.blocks[d]? = some y → y.phis.all (fR (natI (fV f f.blocks.length 0 d))) = true) ∧ b = c ∧ e = 5) ∨
     ((∀ (d : Nat) (y : BlockD), f.blocks[d]? = some y → y.phis.all (fR (natI (fV f f.blocks.length 0 d))) = true) ∧
      ((∃ (i : Nat) (u : UseD), (uxF f)[i]? = some u ∧ ¬ gR f u ∧ (∀ v ∈ (uxF f).take i, gR f v) ∧ b = u.blk ∧ e = 6) ∨
       ((∀ v ∈ uxF f, gR f v) ∧ b = 0 ∧ e = 0)))))
end Go.Proofs.YtagabiidbbhhmaaGreat
