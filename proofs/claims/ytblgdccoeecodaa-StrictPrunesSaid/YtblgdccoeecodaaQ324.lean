/- What the claim needs,part 24. -/
import Derived.Test.YtblgdccoeecodaaQ323
import Derived.Test.YtblgdccoeecodaaQ322
import Derived.Test.YtblgdccoeecodaaQ312
namespace Go.Proofs.Ytblgdccoeecodaa
set_option linter.unusedSimpArgs false
set_option linter.unusedVariables false
open Go.RowKit
theorem list_eq {xs ys:List Int} (hl:xs.length=ys.length) (h:∀ j,j < xs.length -> xs.getD j 0=ys.getD j 0):xs=ys:=by
 apply List.ext_getElem hl
 intro i h1 h2
 have:=h i h1
 simpa [List.getD_eq_getElem?_getD,h1,h2] using this
set_option maxHeartbeats 400000 in
theorem sameInts {w:World} {u v:Value} {xs ys:List Int} (hu:Ints w u xs) (hv:Ints w v ys) :
  Calls Try.prog 39 #[u,v] w fun e w'=>e = .returned (.bool (decide (xs=ys))) /\ ∃ n,w' = w.drewN n:=by
 have hl1:=hu.le
 have hl2:=hv.le
 obtain ⟨a1,c1,b1,o1,rfl,hc1,hm1,ha1,hx⟩:=hu.parts
 obtain ⟨a2,c2,b2,o2,rfl,hc2,hm2,ha2,hy⟩:=hv.parts
 clear hu hv
 generalize H1:xs.length=n1 at *
 generalize H2:ys.length=n2 at *
 have G1:=Lib.hid H1
 have G2:=Lib.hid H2
 clear H1 H2
 by_cases hne:n1=n2
 ·subst hne
  go_enter Try.func39,Try.ntmps39
  go_wp2
  go_loopw [4,5] (fun r i wr=>r = .bool false /\ ∃ k:Nat,k <= n1/\i = .int .i64 k/\(∀ j,j < k -> xs.getD j 0=ys.getD j 0) /\ ∃ n,wr=w.drewN n) (fun _ i _=>n1 - (intOf i).toNat)
  case atStart=>exact ⟨rfl,0,by omega,rfl,by simp,0,rfl⟩
  case round =>
   obtain ⟨rfl,k,hk,rfl,hsame,n,rfl⟩:=hrel
   have HS:=Lib.hid hsame
   clear hsame
   by_cases hlt:k < n1
   ·obtain ⟨rfl, -⟩:=ha1 (by omega)
    obtain ⟨rfl, -⟩:=ha2 (by omega)
    have hxk:=hx k hlt
    have hyk:=hy k hlt
    clear hx hy ha1 ha2
    generalize G3:xs.getD k 0=p at *
    generalize G4:ys.getD k 0=q at *
    have H3:=Lib.hid G3
    have H4:=Lib.hid G4
    clear G3 G4
    by_cases hpq:p=q
    ·subst hpq
     go_wp2
     go_quiet (fail)
     go_wp2
     go_roundw
     case rel =>
      refine ⟨rfl,k+1,by omega,by go_num, ?_,_,rfl⟩
      intro j hj
      by_cases e:j=k
      ·subst e;rw [H3.out,H4.out]
      ·exact HS.out j (by omega)
     case measure=>simp [intOf];omega
    ·go_wp2
     go_quiet (fail)
     go_wp2
     go_ret
     exact ⟨ret_bool (decide_eq_false (fun e=>hpq (by rw [<-H3.out, <-H4.out,e]))).symm,drewN_two _ _ _⟩
   ·have hkn:k=n1:=by omega
    subst hkn
    go_wp2
    go_ret
    exact ⟨ret_bool (decide_eq_true (list_eq (by rw [G1.out,G2.out]) (by rw [G1.out];exact HS.out))).symm,_,rfl⟩
 ·go_enter Try.func39,Try.ntmps39
  go_wp2
  go_ret
  exact ⟨ret_bool (decide_eq_false (fun e=>hne (by rw [<-G1.out, <-G2.out,e]))).symm,0,rfl⟩
theorem sameB {w:World} {u v:Value} {xs ys:List Int} (hu:Ints w u xs) (hv:Ints w v ys) :
  Calls Try.prog 39 #[u,v] w fun e w'=>e = .returned (.bool (decide (xs=ys)))/\Below w.heap.size w w':=by
 refine (sameInts hu hv).mono ?_
 rintro e w' ⟨rfl,nd,rfl⟩
 exact ⟨rfl,below_drewN (Below.refl _ _) nd⟩
def simplest:FuncD:=⟨[],0,0,[⟨[],[⟨1,0,[],5⟩],⟨3,0,[],0⟩⟩]⟩
theorem ints_nil {W:World}:Ints W (.slice none 0 0) []:=⟨Row.nil,by simp⟩
theorem simplest_val {W:World} {bi bb:Nat} (hi:Box W bi #[.int .i64 1,.int .i64 0,.slice none 0 0,.int .i64 5]) (hb:Box W bb #[.slice none 0 0,.slice (some ⟨bi,0,none⟩) 1 1,.int .i64 3,.int .i64 0,.slice none 0 0,.int .i64 0]) :
  FuncV W (.agg #[.slice none 0 0,.int .i64 0,.int .i64 0,.slice (some ⟨bb,0,none⟩) 1 1]) simplest:=by
 refine ⟨_,_,rfl,ints_nil,⟨by decide,by decide⟩,⟨by decide,by decide⟩,_,Row.of_box (n:=1) (size:=6) hb rfl (by omega),fun j x hj => ?_⟩
 obtain rfl:j=0:=by have:=(List.getElem?_eq_some_iff.1 hj).1;simp [simplest] at this;omega
 simp [simplest] at hj
 subst hj
 refine ⟨_,_,_,rfl,SliceOf.nil,⟨_,Row.of_box (n:=1) (size:=4) hi rfl (by omega),fun j x hj => ?_⟩,_,rfl,ints_nil,⟨by decide,by decide⟩,⟨by decide,by decide⟩,by decide,by decide⟩
 obtain rfl:j=0:=by have:=(List.getElem?_eq_some_iff.1 hj).1;simp at this;omega
 simp at hj
 subst hj
 exact ⟨_,rfl,ints_nil,⟨by decide,by decide⟩,⟨by decide,by decide⟩,by decide,by decide⟩
theorem simplest_ok:checkF simplest=0/\sizeA simplest=2:=by
 constructor <;> decide
end Go.Proofs.Ytblgdccoeecodaa
namespace Go.Proofs.Ytblgdccoeecodaa
set_option linter.unusedSimpArgs false
set_option linter.unusedVariables false
open Go.RowKit
theorem head_ways {f:FuncD} (hno:headOk f=false):16 < f.params.length \/ (f.params.length <= 16/\f.arrays < 0) \/ (f.params.length <= 16/\0 <= f.arrays/\8 < f.arrays) \/ (f.params.length <= 16/\0 <= f.arrays/\f.arrays <= 8/\f.cells < 0) \/ (f.params.length <= 16/\0 <= f.arrays/\f.arrays <= 8/\0 <= f.cells/\64 < f.cells) \/
   (f.params.length <= 16/\0 <= f.arrays/\f.arrays <= 8/\0 <= f.cells/\f.cells <= 64/\f.blocks.length < 1) \/ (f.params.length <= 16/\0 <= f.arrays/\f.arrays <= 8/\0 <= f.cells/\f.cells <= 64/\1 <= f.blocks.length/\512 < f.blocks.length) \/
   (f.params.length <= 16/\0 <= f.arrays/\f.arrays <= 8/\0 <= f.cells/\f.cells <= 64/\1 <= f.blocks.length/\f.blocks.length <= 512/\4096 < sizeF f):=by
 by_cases h1:16 < f.params.length
 ·exact .inl h1
 ·by_cases h2:f.arrays < 0
  ·exact .inr (.inl ⟨by omega,h2⟩)
  ·by_cases h3:8 < f.arrays
   ·exact .inr (.inr (.inl ⟨by omega,by omega,h3⟩))
   ·by_cases h4:f.cells < 0
    ·exact .inr (.inr (.inr (.inl ⟨by omega,by omega,by omega,h4⟩)))
    ·by_cases h5:64 < f.cells
     ·exact .inr (.inr (.inr (.inr (.inl ⟨by omega,by omega,by omega,by omega,h5⟩))))
     ·by_cases h6:f.blocks.length < 1
      ·exact .inr (.inr (.inr (.inr (.inr (.inl ⟨by omega,by omega,by omega,by omega,by omega,h6⟩)))))
      ·by_cases h7:512 < f.blocks.length
       ·exact .inr (.inr (.inr (.inr (.inr (.inr (.inl ⟨by omega,by omega,by omega,by omega,by omega,by omega,h7⟩))))))
       ·refine .inr (.inr (.inr (.inr (.inr (.inr (.inr ⟨by omega,by omega,by omega,by omega,by omega,by omega,by omega, ?_⟩))))))
        unfold headOk at hno
        simp at hno
        have:=hno (by omega) (by omega) (by omega) (by omega) (by omega) (by omega) (by omega)
        omega
set_option maxHeartbeats 6400000 in
set_option maxRecDepth 100000 in
theorem refFormedNo {w:World} {v:Value} {f:FuncD} (hv:FuncV w v f) (hno:headOk f=false) :
  Calls Try.prog 55 #[v] w fun e w'=>e = .returned (.bool false)/\Below w.heap.size w w':=by
 have HV:=Lib.hid hv
 obtain ⟨ap,cp,ab,cb,rfl,hp,ha,hc,hB⟩:=hv.form
 have hways:=head_ways hno
 clear hno hp ha hc hB hv
 obtain ⟨np,hnp⟩ : ∃ np,np=f.params.length:=⟨_,rfl⟩
 obtain ⟨nb,hnb⟩ : ∃ nb,nb=f.blocks.length:=⟨_,rfl⟩
 obtain ⟨ar,har⟩ : ∃ ar,ar=f.arrays:=⟨_,rfl⟩
 obtain ⟨ce,hce⟩ : ∃ ce,ce=f.cells:=⟨_,rfl⟩
 obtain ⟨sz,hsz⟩ : ∃ sz,sz=sizeF f:=⟨_,rfl⟩
 rw [<-hnp, <-hnb, <-har, <-hce] at HV hways ⊢
 rw [<-hsz] at hways
 have HNB:=Lib.hid hnb
 have HSF:=Lib.hid hsz
 clear hnp hnb har hce hsz
 rcases hways with h | ⟨h1,h⟩ | ⟨h1,h2,h⟩ | ⟨h1,h2,h3,h⟩ | ⟨h1,h2,h3,h4,h⟩ | ⟨h1,h2,h3,h4,h5,h⟩ | ⟨h1,h2,h3,h4,h5,h6,h⟩ | ⟨h1,h2,h3,h4,h5,h6,h7,h⟩
 all_goals
  go_enter Try.func55,Try.ntmps55
  go_upto_region 1 with (fail)
  have B1:Hid (Box (w.alloc (.cells #[.slice ap np cp,.int .i64 ar,.int .i64 ce,.slice ab nb cb] 25)) (w.heap.size) #[.slice ap np cp,.int .i64 ar,.int .i64 ce,.slice ab nb cb]):=Lib.hid (by simpa using (Box.new w #[.slice ap np cp,.int .i64 ar,.int .i64 ce,.slice ab nb cb] 25))
  have HW:Hid (Below w.heap.size w (w.alloc (.cells #[.slice ap np cp,.int .i64 ar,.int .i64 ce,.slice ab nb cb] 25))):=Lib.hid ((Below.refl _ _).alloc (Nat.le_refl _) _)
  generalize (w.alloc (.cells #[.slice ap np cp,.int .i64 ar,.int .i64 ce,.slice ab nb cb] 25))=wv at *
  obtain ⟨lB1,cB1,fB1⟩:=B1.out
  go_wp2_with (go_at_call 81;refine (refSize (HV.out.below HW.out) (by rw [<-HNB.out];assumption)).mono ?_;rintro e w1 ⟨rfl,hb1⟩;have HB1:=Lib.hid (HW.out.trans (hb1.mono HW.out.size));clear hb1;rw [<-HSF.out])
  go_ret
  first | exact ⟨rfl,HB1.out⟩ | exact ⟨rfl,HW.out⟩
end Go.Proofs.Ytblgdccoeecodaa
namespace Go.Proofs.Ytblgdccoeecodaa
set_option linter.unusedSimpArgs false
set_option linter.unusedVariables false
open Go.RowKit
def toOk (nb:Nat) (b:Int):Bool:=decide (1 <= b) && decide (b < (nb:Int))
theorem endOk_is (nb:Nat) (t:TermD):endOk nb t=(t.to.all (toOk nb) && ((t.op == 1 && ((t.to.length:Int) == 1) && t.val == -1 && t.n == 0) || (t.op == 2 && ((t.to.length:Int) == 2) && t.n == 0) || (t.op == 3 && ((t.to.length:Int) == 0) && t.n == 0) || (t.op == 4 && ((t.to.length:Int) == 0) && t.val == -1 && decide (0 <= t.n)))):=by
 unfold endOk
 rw [show (t.to.length == 1)=((t.to.length:Int) == 1) by (rw [Bool.eq_iff_iff];simp;omega),show (t.to.length == 2)=((t.to.length:Int) == 2) by (rw [Bool.eq_iff_iff];simp;omega),show (t.to.length == 0)=((t.to.length:Int) == 0) by (rw [Bool.eq_iff_iff];simp)]
 rfl
set_option maxHeartbeats 6400000 in
theorem refEnd {w:World} {ap ab:Option Addr} {np cp nb cb:Nat} {ar ce:Int} {t:TermD} {at_:Option Addr} {ct:Nat} (hs:Ints w (.slice at_ t.to.length ct) t.to) :
  Calls Try.prog 84 #[.agg #[.slice ap np cp,.int .i64 ar,.int .i64 ce,.slice ab nb cb],.agg (termA t at_ ct)] w fun e w'=>e = .returned (.bool (endOk nb t))/\Below w.heap.size w w':=by
 have HE:=Lib.hid (endOk_is nb t)
 obtain ⟨r,hr⟩ : ∃ r,r=endOk nb t:=⟨_,rfl⟩
 rw [<-hr] at HE ⊢
 clear hr
 obtain ⟨op,val,to,N⟩:=t
 unfold termA
 simp only at *
 obtain ⟨a,cap,b,o,hav,hc,hcm,ha,hx⟩:=hs.parts
 cases hav
 have hle:=hs.1.big
 obtain ⟨n,hn⟩ : ∃ n,n=to.length:=⟨_,rfl⟩
 rw [<-hn] at HE hc ha hx hle ⊢
 have HN:=Lib.hid hn
 have HA:=Lib.hid ha
 have HX:=Lib.hid hx
 clear hn ha hx hs
 go_enter Try.func84,Try.ntmps84
 go_upto_region 1 with (fail)
 have B2:Hid (Box ((w.alloc (.cells #[.slice ap np cp,.int .i64 ar,.int .i64 ce,.slice ab nb cb] 25)).alloc (.cells #[.int .i64 op,.int .i64 val,.slice at_ n ct,.int .i64 N] 54)) (w.heap.size) #[.slice ap np cp,.int .i64 ar,.int .i64 ce,.slice ab nb cb]):=Lib.hid (by simpa using ((Box.new w #[.slice ap np cp,.int .i64 ar,.int .i64 ce,.slice ab nb cb] 25).alloc _))
 have B3:Hid (Box ((w.alloc (.cells #[.slice ap np cp,.int .i64 ar,.int .i64 ce,.slice ab nb cb] 25)).alloc (.cells #[.int .i64 op,.int .i64 val,.slice at_ n ct,.int .i64 N] 54)) (w.heap.size+1) #[.int .i64 op,.int .i64 val,.slice at_ n ct,.int .i64 N]):=Lib.hid (by simpa using (Box.new (w.alloc (.cells #[.slice ap np cp,.int .i64 ar,.int .i64 ce,.slice ab nb cb] 25)) #[.int .i64 op,.int .i64 val,.slice at_ n ct,.int .i64 N] 54))
 have HW:Hid (Below w.heap.size w ((w.alloc (.cells #[.slice ap np cp,.int .i64 ar,.int .i64 ce,.slice ab nb cb] 25)).alloc (.cells #[.int .i64 op,.int .i64 val,.slice at_ n ct,.int .i64 N] 54))):=Lib.hid (((Below.refl _ _).alloc (Nat.le_refl _) _).alloc (by simp) _)
 generalize ((w.alloc (.cells #[.slice ap np cp,.int .i64 ar,.int .i64 ce,.slice ab nb cb] 25)).alloc (.cells #[.int .i64 op,.int .i64 val,.slice at_ n ct,.int .i64 N] 54))=wv at *
 obtain ⟨lB2,cB2,fB2⟩:=B2.out
 obtain ⟨lB3,cB3,fB3⟩:=B3.out
 go_wp2_with fail
 go_loopw [5] (fun i wr => ∃ j:Nat,j <= n/\i = .int .i64 j/\(to.take j).all (toOk nb)=true/\Below w.heap.size w wr/\Box wr w.heap.size #[.slice ap np cp,.int .i64 ar,.int .i64 ce,.slice ab nb cb]/\Box wr (w.heap.size+1) #[.int .i64 op,.int .i64 val,.slice at_ n ct,.int .i64 N]) (fun i _=>n - (intOf i).toNat)
 case atStart=>exact ⟨0,Nat.zero_le _,rfl,rfl,HW.out,B2.out,B3.out⟩
 case round =>
  obtain ⟨j,hj,rfl,hall,hW,hB2,hB3⟩:=hrel
  clear lB2 cB2 fB2 lB3 cB3 fB3
  have HALL:=Lib.hid hall
  replace HW:=Lib.hid hW
  replace B2:=Lib.hid hB2
  replace B3:=Lib.hid hB3
  clear hall hW hB2 hB3

  obtain ⟨lB2,cB2,fB2⟩:=B2.out
  obtain ⟨lB3,cB3,fB3⟩:=B3.out
  by_cases hlt:j < n
  ·obtain ⟨rfl,hbw⟩:=HA.out (by omega)
   have h0:=(HW.out.cell hbw).trans (HX.out j hlt)
   have hjx:=list_at to j (by have:=HN.out;omega)
   have HTS:=Lib.hid (take_snoc to j _ hjx)
   have HM:=Lib.hid (List.mem_of_getElem? hjx)
   clear hjx
   generalize to.getD j 0=y at *
   cases hy1:decide (y < 1)
   ·cases hy2:decide ((nb:Int) <= y)
    ·have HY:Hid (toOk nb y=true):=Lib.hid (by unfold toOk;simp at hy1 hy2 ⊢;omega)
     go_upto_region 4 with (fail)
     go_quiet (fail)
     go_wp2
     go_roundw
     case rel=>exact ⟨j+1,hlt,by go_num,by rw [HTS.out,List.all_append,HALL.out];simp [HY.out],below_drewN HW.out _,B2.out.drewN _,B3.out.drewN _⟩
     case measure=>simp [intOf];omega
    ·have HY:Hid (toOk nb y=false):=Lib.hid (by unfold toOk;simp at hy1 hy2 ⊢;omega)
     go_upto_region 4 with (fail)
     go_quiet (fail)
     go_wp2
     go_ret
     exact ⟨by rw [HE.out,show to.all (toOk nb)=false by (rw [List.all_eq_false];exact ⟨y,HM.out,by rw [HY.out];simp⟩)];rfl,below_drewN HW.out _⟩
   ·have HY:Hid (toOk nb y=false):=Lib.hid (by unfold toOk;simp at hy1 ⊢;omega)
    go_upto_region 4 with (fail)
    go_quiet (fail)
    go_wp2
    go_ret
    exact ⟨by rw [HE.out,show to.all (toOk nb)=false by (rw [List.all_eq_false];exact ⟨y,HM.out,by rw [HY.out];simp⟩)];rfl,below_drewN HW.out _⟩
  ·obtain rfl:j=n:=by omega
   rw [List.take_of_length_le (by have:=HN.out;omega)] at HALL
   rw [HALL.out,Bool.true_and] at HE
   by_cases h1:op=1
   ·subst h1
    cases hn1:((j:Int) == 1) <;> cases hv:(val == -1) <;> cases hN:(N == 0)
    all_goals
     rw [hn1,hv,hN] at HE
     go_wp2
     go_ret
     exact ⟨by rw [HE.out];simp,HW.out⟩
   ·by_cases h2:op=2
    ·subst h2
     cases hn1:((j:Int) == 2) <;> cases hN:(N == 0)
     all_goals
      rw [hn1,hN] at HE
      clear h1
      go_wp2
      go_ret
      exact ⟨by rw [HE.out];simp,HW.out⟩
    ·by_cases h3:op=3
     ·subst h3
      cases hn1:((j:Int) == 0) <;> cases hN:(N == 0)
      all_goals
       rw [hn1,hN] at HE
       clear h1 h2
       go_wp2
       go_ret
       exact ⟨by rw [HE.out];simp,HW.out⟩
     ·by_cases h4:op=4
      ·subst h4
       cases hn1:((j:Int) == 0) <;> cases hv:(val == -1) <;> cases hN:decide (0 <= N)
       all_goals
        rw [hn1,hv,hN] at HE
        clear h1 h2 h3
        go_wp2
        go_ret
        exact ⟨by rw [HE.out];simp,HW.out⟩
      ·have e1:(op == 1)=false:=by simpa using h1
       have e2:(op == 2)=false:=by simpa using h2
       have e3:(op == 3)=false:=by simpa using h3
       have e4:(op == 4)=false:=by simpa using h4
       clear h1 h2 h3 h4
       rw [e1,e2,e3,e4] at HE
       go_wp2
       go_ret
       exact ⟨by rw [HE.out];simp,HW.out⟩
end Go.Proofs.Ytblgdccoeecodaa
