/- Part 54. -/
import Derived.Test.YtagabiidbbhhmaaGreatEC50
namespace Go.Proofs.YtagabiidbbhhmaaGreat
set_option maxHeartbeats 3200000
set_option linter.all false
open Go.RowKit Go.Shelf
theorem lV {T:List (Int × Int)} {id:Int} {i:Nat} (h:∀ p ∈ T.take i,p.1 ≠ id) {p:Int × Int} (hp:T[i]? = some p) (he:p.1=id):tyOf T id=some p.2:=by
 obtain ⟨hi,hpe⟩:=aD.1 hp
 have h1:T.take i ++ p :: T.drop (i+1)=T:=by rw [<-hpe, <-List.drop_eq_getElem_cons hi,cZ]
 have h2:T.find? (fun q=>q.1 == id)=some p:=by
  rw [<-h1,List.find?_append,List.find?_eq_none.2 (fun q hq=>by simpa using h q hq),Option.none_or,List.find?_cons,show (p.1 == id)=true by simpa using he]
 unfold tyOf
 rw [h2];rfl
theorem rR {w:World} {v:Value} {f:FuncD} (hv:fO w v f) (hf:gN f=true) (id:Int):Calls Tryz.prog 51 #[v,.int .i64 id] w fun e w'=>e = .returned (.int .i64 ((tyOf (eN f) id).getD 0))/\Below w.heap.size w w':=by
 have HV:=h! hv
 have HF:=h! hf
 obtain ⟨ap,cp,ab,cb,rfl,hp,ha,hc,hB⟩:=hv.form
 obtain ⟨tt,htt⟩ : ∃ tt,tt=(tyOf (eN f) id).getD 0:=⟨_,rfl⟩
 rw [<-htt]
 have HTT:=h! htt
 clear hp ha hc hB hv hf htt
 go_enter Tryz.func51,Tryz.ntmps51
 go_upto_region 1 with (fail)
 have hA_:=(Below.refl w.heap.size w).alloc (aA _) (.cells #[.slice ap f.params.length cp,.int .i64 f.arrays,.int .i64 f.cells,.slice ab f.blocks.length cb] 25)
 have HW:=h! hA_
 clear hA_
 have B2:=h! (Box.new w #[.slice ap f.params.length cp,.int .i64 f.arrays,.int .i64 f.cells,.slice ab f.blocks.length cb] 25)
 generalize w.alloc (.cells #[.slice ap f.params.length cp,.int .i64 f.arrays,.int .i64 f.cells,.slice ab f.blocks.length cb] 25)=wv at *
 obtain ⟨lB2,cB2,fB2⟩:=B2.out
 go_wp2_with fail
 refine (mW (HV.out.below HW.out) (by have:=lN HF.out;omega)).mono ?_
 rintro e w2 ⟨u,rfl,hu,hb2⟩
 have hle:=lN HF.out
 obtain ⟨n,hn⟩ : ∃ n,n=(eN f).length:=⟨_,rfl⟩
 rw [<-hn] at hu hle
 have HN:=h! hn
 obtain ⟨va,vc,rfl⟩:=pU hu
 have HVR:Hid (Row w2 (.slice va n vc) n 2 (jG (eN f))):=h! (Row.of_own hu (by omega))
 clear lB2 cB2 fB2
 replace B2:=h! (B2.out.later hb2)
 replace HW:=h! (HW.out.trans (hb2.mono HW.out.size))
 clear hb2
 obtain ⟨lB2,cB2,fB2⟩:=B2.out
 clear lB2 cB2 fB2
 clear hu hn
 obtain ⟨va',vc',vb,vo,hve,hvc,hvm,hva,hvx⟩:=HVR.out.parts
 have hlen:=HVR.out.len
 cases hve
 have HVA:=h! hva
 have HVX:=h! hvx
 have HLN:=h! hlen
 clear hva hvx hlen HVR
 go_wp2_with fail
 go_loopw [6] (fun ii wr => ∃ i:Nat,i <= n/\ii = .int .i64 i/\(∀ p ∈ (eN f).take i,p.1 ≠ id)/\wr=w2) (fun ii _=>n - (intOf ii).toNat)
 case atStart=>exact ⟨0,aI _,rfl,by simp,rfl⟩
 obtain ⟨i,hi,rfl,hno,rfl⟩:=hrel
 have HNO:=h! hno
 clear hno
 by_cases hlt:i < n
 ·obtain ⟨p,hp⟩ : ∃ p,(eN f)[i]? = some p:=⟨_,aC (by have:=HN.out;omega)⟩
  obtain ⟨rfl,hvb⟩:=HVA.out (by have:=HLN.out;omega)
  obtain ⟨h1,h2⟩:=lH _ _ _ hp
  have hc0:=HVX.out _ _ h1
  have hc1:=HVX.out _ _ h2
  rw [<-Nat.add_assoc] at hc1
  have HP:=h! hp
  have HTK:=h! (eM _ i p hp)
  clear h1 h2 hp
  obtain ⟨x,t⟩:=p
  simp only at hc0 hc1
  cases hx:(x == id)
  ·have HX:=h! hx
   go_wp2
   go_roundw
   case rel=>exact ⟨i+1,hlt,by go_num,fun q hq=>by
     rw [HTK.out] at hq
     rcases aM.1 hq with h | h
     ·exact HNO.out q h
     simp at h;subst h;have:=HX.out;simpa using this,by trivial⟩
   simp [intOf];omega
  have HX:=h! hx
  go_wp2
  go_ret
  exact ⟨by rw [HTT.out,lV HNO.out HP.out (by have:=HX.out;simpa using this)];rfl,HW.out⟩
 obtain rfl:i=n:=by omega
 rw [aH (by have:=HN.out;omega)] at HNO
 have HNT:Hid (tyOf (eN f) id=none):=h! (gQ.2 fun hm=>by
  obtain ⟨p,hp,he⟩:=bB.1 hm
  exact HNO.out p hp he)
 go_wp2
 go_ret
 exact ⟨by rw [HTT.out,HNT.out];rfl,HW.out⟩
theorem wQ {f:FuncD} (h:gN f=true) {p:Int × Int} (hp:p ∈ eN f):p.2=1 \/ p.2=2:=by
 have h0:=h
 unfold gN at h0
 simp only [aJ,aY] at h0
 unfold eN at hp
 rcases aM.1 hp with hp | hp
 ·unfold parT at hp
  obtain ⟨q,hq,rfl⟩:=bB.1 hp
  have hm:q.1 ∈ f.params:=by
   obtain ⟨i,hi,rfl⟩:=dK hq
   simp
  have:=h0.1.2 q.1 hm
  unfold kA at this
  simpa using this
 unfold nA at hp
 obtain ⟨b,hb,hp⟩:=cV.1 hp
 obtain ⟨j,hj,rfl⟩:=dK hb
 have h1:=h0.2 (f.blocks[j],j) (by rw [bI];exact ⟨j,by simp [hj]⟩)
 unfold gC at h1
 simp only [aJ,aY] at h1
 unfold iL at hp
 rcases aM.1 hp with hp | hp
 ·obtain ⟨q,hq,rfl⟩:=bB.1 hp
  have h2:=h1.1.1.2 q hq
  unfold iH at h2
  simp only [aJ,bV,beq_iff_eq] at h2
  exact h2.1.1.1
 obtain ⟨q,hq,rfl⟩:=bB.1 hp
 have h2:=(List.mem_filter.1 hq).2
 have h3:=(mP q.op).2.2
 simp at h2
 simp only
 omega
def toP (ps:List (Int × Int)) (v:Int):Int:=(tyOf ps v).getD v
theorem uF {ps:List (Int × Int)} {v:Int} (h:∀ p ∈ ps,p.1 ≠ v):toP ps v=v:=by
 unfold toP
 rw [gQ.2 (fun hm=>by obtain ⟨p,hp,he⟩:=bB.1 hm;exact h p hp he)];rfl
theorem uG {ps:List (Int × Int)} {v:Int} {i:Nat} (h:∀ p ∈ ps.take i,p.1 ≠ v) {p:Int × Int} (hp:ps[i]? = some p) (he:p.1=v):toP ps v=p.2:=by
 unfold toP
 rw [lV h hp he];rfl
theorem aDU (a b v:Int):toP [(a,b)] v=jZ a b v:=by
 unfold jZ
 by_cases h:v=a
 ·rw [if_pos h,uG (i:=0) (p:=(a,b)) (by simp) rfl h.symm]
 rw [if_neg h,uF (by simp;exact fun e=>h e.symm)]
theorem aFQ {w:World} {sv:Value} {ps:List (Int × Int)} {v:Int} (hv:Row w sv ps.length 2 (jG ps)) (hnm:ps.length <= 1000000):Calls Tryz.prog 43 #[sv,.int .i64 v] w fun e w'=>e = .returned (.int .i64 (toP ps v))/\Below w.heap.size w w':=by
 obtain ⟨n,hn⟩ : ∃ n,n=ps.length:=⟨_,rfl⟩
 rw [<-hn] at hv hnm
 have HN:=h! hn
 obtain ⟨va,vc,vb,vo,hve,hvc,hvm,hva,hvx⟩:=hv.parts
 have hlen:=hv.len
 cases hve
 have HVA:=h! hva
 have HVX:=h! hvx
 have HLN:=h! hlen
 obtain ⟨tt,htt⟩ : ∃ tt,tt=toP ps v:=⟨_,rfl⟩
 rw [<-htt]
 have HTT:=h! htt
 clear hva hvx hlen hv hn htt
 go_enter Tryz.func43,Tryz.ntmps43
 go_wp2_with fail
 go_loopw [5] (fun ii wr => ∃ i:Nat,i <= n/\ii = .int .i64 i/\(∀ p ∈ ps.take i,p.1 ≠ v)/\wr=w) (fun ii _=>n - (intOf ii).toNat)
 case atStart=>exact ⟨0,aI _,rfl,by simp,rfl⟩
 obtain ⟨i,hi,rfl,hno,rfl⟩:=hrel
 have HNO:=h! hno
 clear hno
 by_cases hlt:i < n
 ·obtain ⟨p,hp⟩ : ∃ p,ps[i]? = some p:=⟨_,aC (by have:=HN.out;omega)⟩
  obtain ⟨rfl,hvb⟩:=HVA.out (by have:=HLN.out;omega)
  obtain ⟨h1,h2⟩:=lH _ _ _ hp
  have hc0:=HVX.out _ _ h1
  have hc1:=HVX.out _ _ h2
  rw [<-Nat.add_assoc] at hc1
  have HP:=h! hp
  have HTK:=h! (eM _ i p hp)
  clear h1 h2 hp
  obtain ⟨x,t⟩:=p
  simp only at hc0 hc1
  cases hx:(x == v)
  ·have HX:=h! hx
   go_wp2
   go_roundw
   case rel=>exact ⟨i+1,hlt,by go_num,fun q hq=>by
     rw [HTK.out] at hq
     rcases aM.1 hq with h | h
     ·exact HNO.out q h
     simp at h;subst h;have:=HX.out;simpa using this,by trivial⟩
   simp [intOf];omega
  have HX:=h! hx
  go_wp2
  go_ret
  exact ⟨by rw [HTT.out,uG HNO.out HP.out (by have:=HX.out;simpa using this)];rfl,Below.refl _ _⟩
 obtain rfl:i=n:=by omega
 rw [aH (by have:=HN.out;omega)] at HNO
 go_wp2
 go_ret
 exact ⟨by rw [HTT.out,uF HNO.out];rfl,Below.refl _ _⟩
def ToOk (sv:Value) (to:Int -> Int) (w:World):Prop := ∀ (W:World) (v:Int),In64 v -> Below w.heap.size w W -> Calls Tryz.prog 43 #[sv,.int .i64 v] W fun e W'=>e = .returned (.int .i64 (to v))/\Below W.heap.size W W'
theorem ToOk.of_row {w:World} {sv:Value} {ps:List (Int × Int)} (hv:Row w sv ps.length 2 (jG ps)) (hn:ps.length <= 1000000):ToOk sv (toP ps) w:=fun W v _ hb=>aFQ (hv.below hb) hn
theorem ToOk.later {w w' : World} {sv:Value} {to:Int -> Int} (h:ToOk sv to w) (hb:Below w.heap.size w w'):ToOk sv to w':=fun W v h64 hb2=>h W v h64 (hb.trans (hb2.mono hb.size))
end Go.Proofs.YtagabiidbbhhmaaGreat
