/- Part 14. -/
import Derived.Test.YtagabiidbbhhmaaGreatEB13
namespace Go.Proofs.YtagabiidbbhhmaaGreat
set_option maxHeartbeats 6400000
set_option linter.all false
open Go.RowKit
theorem aAC {f:FuncD} (hno:jA f=false):16 < f.params.length \/ (f.params.length <= 16/\f.arrays < 0) \/ (f.params.length <= 16/\0 <= f.arrays/\8 < f.arrays) \/ (f.params.length <= 16/\0 <= f.arrays/\f.arrays <= 8/\f.cells < 0) \/ (f.params.length <= 16/\0 <= f.arrays/\f.arrays <= 8/\0 <= f.cells/\64 < f.cells) \/
   (f.params.length <= 16/\0 <= f.arrays/\f.arrays <= 8/\0 <= f.cells/\f.cells <= 64/\f.blocks.length < 1) \/ (f.params.length <= 16/\0 <= f.arrays/\f.arrays <= 8/\0 <= f.cells/\f.cells <= 64/\1 <= f.blocks.length/\512 < f.blocks.length) \/
   (f.params.length <= 16/\0 <= f.arrays/\f.arrays <= 8/\0 <= f.cells/\f.cells <= 64/\1 <= f.blocks.length/\f.blocks.length <= 512/\4096 < jV f):=by
 by_cases h1:16 < f.params.length
 ·exact .inl h1
 ·by_cases h2:f.arrays < 0
  ·exact .inr (.inl ⟨by omega,h2⟩)
  by_cases h3:8 < f.arrays
  ·exact .inr (.inr (.inl ⟨by omega,by omega,h3⟩))
  by_cases h4:f.cells < 0
  ·exact .inr (.inr (.inr (.inl ⟨by omega,by omega,by omega,h4⟩)))
  by_cases h5:64 < f.cells
  ·exact .inr (.inr (.inr (.inr (.inl ⟨by omega,by omega,by omega,by omega,h5⟩))))
  by_cases h6:f.blocks.length < 1
  ·exact .inr (.inr (.inr (.inr (.inr (.inl ⟨by omega,by omega,by omega,by omega,by omega,h6⟩)))))
  by_cases h7:512 < f.blocks.length
  ·exact .inr (.inr (.inr (.inr (.inr (.inr (.inl ⟨by omega,by omega,by omega,by omega,by omega,by omega,h7⟩))))))
  refine .inr (.inr (.inr (.inr (.inr (.inr (.inr ⟨by omega,by omega,by omega,by omega,by omega,by omega,by omega, ?_⟩))))))
  unfold jA at hno
  simp at hno
  have:=hno (by omega) (by omega) (by omega) (by omega) (by omega) (by omega) (by omega)
  omega
set_option maxRecDepth 100000 in
theorem tA {w:World} {v:Value} {f:FuncD} (hv:fJ w v f) (hno:jA f=false) :
  Calls Tryz.prog 69 #[v] w fun e w'=>e = .returned (.bool false)/\Below w.heap.size w w':=by
 have HV:=h! hv
 obtain ⟨ap,cp,ab,cb,rfl,hp,ha,hc,hB⟩:=hv.form
 have hways:=aAC hno
 clear hno hp ha hc hB hv
 obtain ⟨np,hnp⟩ : ∃ np,np=f.params.length:=⟨_,rfl⟩
 obtain ⟨nb,hnb⟩ : ∃ nb,nb=f.blocks.length:=⟨_,rfl⟩
 obtain ⟨ar,har⟩ : ∃ ar,ar=f.arrays:=⟨_,rfl⟩
 obtain ⟨ce,hce⟩ : ∃ ce,ce=f.cells:=⟨_,rfl⟩
 obtain ⟨sz,hsz⟩ : ∃ sz,sz=jV f:=⟨_,rfl⟩
 rw [<-hnp, <-hnb, <-har, <-hce] at HV hways ⊢
 rw [<-hsz] at hways
 have HNB:=h! hnb
 have HSF:=h! hsz
 clear hnp hnb har hce hsz
 rcases hways with h | ⟨h1,h⟩ | ⟨h1,h2,h⟩ | ⟨h1,h2,h3,h⟩ | ⟨h1,h2,h3,h4,h⟩ | ⟨h1,h2,h3,h4,h5,h⟩ | ⟨h1,h2,h3,h4,h5,h6,h⟩ | ⟨h1,h2,h3,h4,h5,h6,h7,h⟩
 all_goals
  go_enter Tryz.func69,Tryz.ntmps69
  go_upto_region 1 with (fail)
  have hA_:=(Below.refl w.heap.size w).alloc (aA _) (.cells #[.slice ap np cp,.int .i64 ar,.int .i64 ce,.slice ab nb cb] 25)
  have HW:=h! hA_
  clear hA_
  have B1:=h! (Box.new w #[.slice ap np cp,.int .i64 ar,.int .i64 ce,.slice ab nb cb] 25)
  generalize w.alloc (.cells #[.slice ap np cp,.int .i64 ar,.int .i64 ce,.slice ab nb cb] 25)=wv at *
  obtain ⟨lB1,cB1,fB1⟩:=B1.out
  go_wp2_with (go_at_call 123;refine (yJ (HV.out.below HW.out) (by rw [<-HNB.out];assumption)).mono ?_;rintro e w1 ⟨rfl,hb1⟩;have HB1:=h! (HW.out.trans (hb1.mono HW.out.size));clear hb1;rw [<-HSF.out])
  go_ret
  first | exact ⟨rfl,HB1.out⟩ | exact ⟨rfl,HW.out⟩
def toOk (nb:Nat) (b:Int):Bool:=decide (1 <= b) && decide (b < (nb:Int))
theorem aB7 (nb:Nat) (t:TermD):iM nb t=(t.to.all (toOk nb) && ((t.op == 1 && ((t.to.length:Int) == 1) && t.val == -1 && t.n == 0) || (t.op == 2 && ((t.to.length:Int) == 2) && t.n == 0) || (t.op == 3 && ((t.to.length:Int) == 0) && t.n == 0) || (t.op == 4 && ((t.to.length:Int) == 0) && t.val == -1 && decide (0 <= t.n)))):=by
 unfold iM
 rw [show (t.to.length == 1)=((t.to.length:Int) == 1) by (rw [bU];simp;omega),show (t.to.length == 2)=((t.to.length:Int) == 2) by (rw [bU];simp;omega),show (t.to.length == 0)=((t.to.length:Int) == 0) by (rw [bU];simp)]
 rfl
theorem aFO {w:World} {ap ab:Option Addr} {np cp nb cb:Nat} {ar ce:Int} {t:TermD} {at_:Option Addr} {ct:Nat} (hs:Ints w (.slice at_ t.to.length ct) t.to) :
  Calls Tryz.prog 126 #[.agg #[.slice ap np cp,.int .i64 ar,.int .i64 ce,.slice ab nb cb],.agg (aBS t at_ ct)] w fun e w'=>e = .returned (.bool (iM nb t))/\Below w.heap.size w w':=by
 have HE:=h! (aB7 nb t)
 obtain ⟨r,hr⟩ : ∃ r,r=iM nb t:=⟨_,rfl⟩
 rw [<-hr] at HE ⊢
 clear hr
 obtain ⟨op,val,to,N⟩:=t
 unfold aBS
 simp only at *
 obtain ⟨a,cap,b,o,hav,hc,hcm,ha,hx⟩:=hs.parts
 cases hav
 have hle:=hs.1.big
 obtain ⟨n,hn⟩ : ∃ n,n=to.length:=⟨_,rfl⟩
 rw [<-hn] at HE hc ha hx hle ⊢
 have HN:=h! hn
 have HA:=h! ha
 have HX:=h! hx
 clear hn ha hx hs
 go_enter Tryz.func126,Tryz.ntmps126
 go_upto_region 1 with (fail)
 have hA_:=(Below.refl w.heap.size w).alloc (aA _) (.cells #[.slice ap np cp,.int .i64 ar,.int .i64 ce,.slice ab nb cb] 25)
 have HW:=h! hA_
 clear hA_
 have B2:=h! (Box.new w #[.slice ap np cp,.int .i64 ar,.int .i64 ce,.slice ab nb cb] 25)
 have hz0_:(w.alloc (.cells #[.slice ap np cp,.int .i64 ar,.int .i64 ce,.slice ab nb cb] 25)).heap.size=w.heap.size+1:=World.size_alloc _ _
 generalize w.alloc (.cells #[.slice ap np cp,.int .i64 ar,.int .i64 ce,.slice ab nb cb] 25)=wv0 at *
 have hA_:=(Below.refl wv0.heap.size wv0).alloc (aA _) (.cells #[.int .i64 op,.int .i64 val,.slice at_ n ct,.int .i64 N] 61)
 replace B2:=h! (B2.out.later hA_)
 replace HW:=h! (HW.out.trans (hA_.mono HW.out.size))
 clear hA_
 have B3:=h! (Box.new wv0 #[.int .i64 op,.int .i64 val,.slice at_ n ct,.int .i64 N] 61)
 rw [hz0_] at B3
 clear hz0_
 generalize wv0.alloc (.cells #[.int .i64 op,.int .i64 val,.slice at_ n ct,.int .i64 N] 61)=wv at *
 obtain ⟨lB2,cB2,fB2⟩:=B2.out
 obtain ⟨lB3,cB3,fB3⟩:=B3.out
 go_wp2_with fail
 go_loopw [5] (fun i wr => ∃ j:Nat,j <= n/\i = .int .i64 j/\(to.take j).all (toOk nb)=true/\Below w.heap.size w wr/\Box wr w.heap.size #[.slice ap np cp,.int .i64 ar,.int .i64 ce,.slice ab nb cb]/\Box wr (w.heap.size+1) #[.int .i64 op,.int .i64 val,.slice at_ n ct,.int .i64 N]) (fun i _=>n - (intOf i).toNat)
 case atStart=>exact ⟨0,aJ _,rfl,rfl,HW.out,B2.out,B3.out⟩
 case round =>
  obtain ⟨j,hj,rfl,hall,hW,hB2,hB3⟩:=hrel
  clear lB2 cB2 fB2 lB3 cB3 fB3
  have HALL:=h! hall
  replace HW:=h! hW
  replace B2:=h! hB2
  replace B3:=h! hB3
  clear hall hW hB2 hB3
  obtain ⟨lB2,cB2,fB2⟩:=B2.out
  obtain ⟨lB3,cB3,fB3⟩:=B3.out
  by_cases hlt:j < n
  ·obtain ⟨rfl,hbw⟩:=HA.out (by omega)
   have h0:=(HW.out.cell hbw).trans (HX.out j hlt)
   have hjx:=eZ to j (by have:=HN.out;omega)
   have HTS:=h! (eP to j _ hjx)
   have HM:=h! (aG hjx)
   clear hjx
   generalize to.getD j 0=y at *
   cases hy1:decide (y < 1)
   ·cases hy2:decide ((nb:Int) <= y)
    ·have HY:Hid (toOk nb y=true):=h! (by unfold toOk;simp at hy1 hy2 ⊢;omega)
     go_upto_region 4 with (fail)
     go_quiet (fail)
     go_wp2
     go_roundw
     case rel=>exact ⟨j+1,hlt,by go_num,by rw [HTS.out,dH,HALL.out];simp [HY.out],eR HW.out _,B2.out.drewN _,B3.out.drewN _⟩
     simp [intOf];omega
    have HY:Hid (toOk nb y=false):=h! (by unfold toOk;simp at hy1 hy2 ⊢;omega)
    go_upto_region 4 with (fail)
    go_quiet (fail)
    go_wp2
    go_ret
    exact ⟨by rw [HE.out,show to.all (toOk nb)=false by (rw [cD];exact ⟨y,HM.out,by rw [HY.out];simp⟩)];rfl,eR HW.out _⟩
   have HY:Hid (toOk nb y=false):=h! (by unfold toOk;simp at hy1 ⊢;omega)
   go_upto_region 4 with (fail)
   go_quiet (fail)
   go_wp2
   go_ret
   exact ⟨by rw [HE.out,show to.all (toOk nb)=false by (rw [cD];exact ⟨y,HM.out,by rw [HY.out];simp⟩)];rfl,eR HW.out _⟩
  obtain rfl:j=n:=by omega
  rw [aH (by have:=HN.out;omega)] at HALL
  rw [HALL.out,bL] at HE
  by_cases h1:op=1
  ·subst h1
   cases hn1:((j:Int) == 1) <;> cases hv:(val == -1) <;> cases hN:(N == 0)
   all_goals
    rw [hn1,hv,hN] at HE
    go_wp2
    go_ret
    exact ⟨by rw [HE.out];simp,HW.out⟩
  by_cases h2:op=2
  ·subst h2
   cases hn1:((j:Int) == 2) <;> cases hN:(N == 0)
   all_goals
    rw [hn1,hN] at HE
    clear h1
    go_wp2
    go_ret
    exact ⟨by rw [HE.out];simp,HW.out⟩
  by_cases h3:op=3
  ·subst h3
   cases hn1:((j:Int) == 0) <;> cases hN:(N == 0)
   all_goals
    rw [hn1,hN] at HE
    clear h1 h2
    go_wp2
    go_ret
    exact ⟨by rw [HE.out];simp,HW.out⟩
  by_cases h4:op=4
  ·subst h4
   cases hn1:((j:Int) == 0) <;> cases hv:(val == -1) <;> cases hN:decide (0 <= N)
   all_goals
    rw [hn1,hv,hN] at HE
    clear h1 h2 h3
    go_wp2
    go_ret
    exact ⟨by rw [HE.out];simp,HW.out⟩
  have e1:(op == 1)=false:=by simpa using h1
  have e2:(op == 2)=false:=by simpa using h2
  have e3:(op == 3)=false:=by simpa using h3
  have e4:(op == 4)=false:=by simpa using h4
  clear h1 h2 h3 h4
  rw [e1,e2,e3,e4] at HE
  go_wp2
  go_ret
  exact ⟨by rw [HE.out];simp,HW.out⟩
theorem aAD {w : World} {fv : Array Value} (hf : fv.size = 4) {id typ : Int} {af av : Option Addr} {n m cf cv : Nat} {ap ab : Option Addr} {np cp nb cb : Nat} {ar ce : Int} (h : ((typ == 1 || typ == 2) && (n == m)) = false) :
    Calls Tryz.prog 124 #[.agg #[.slice ap np cp, .int .i64 ar, .int .i64 ce, .slice ab nb cb], .agg #[.int .i64 id, .int .i64 typ, .slice af n cf, .slice av m cv]] w fun e w' => e = .returned (.bool false) ∧ Below w.heap.size w w' := by
  clear hf
  cases ht1 : (typ == 1) <;> cases ht2 : (typ == 2) <;> cases hl : ((n : Int) == (m : Int))
  all_goals
    first
      | (have hnm : n = m := by simp at hl; omega
         subst hnm
         rw [ht1, ht2] at h
         simp at h; done)
      | (clear h
         go_enter Tryz.func124, Tryz.ntmps124
         go_upto_region 1 with (fail)
         have hA_ := (Below.refl w.heap.size w).alloc (aA _) (.cells #[.slice ap np cp, .int .i64 ar, .int .i64 ce, .slice ab nb cb] 25)
         have HW := h! hA_
         clear hA_
         have B2 := h! (Box.new w #[.slice ap np cp, .int .i64 ar, .int .i64 ce, .slice ab nb cb] 25)
         have hz0_ : (w.alloc (.cells #[.slice ap np cp, .int .i64 ar, .int .i64 ce, .slice ab nb cb] 25)).heap.size = w.heap.size + 1 := World.size_alloc _ _
         generalize w.alloc (.cells #[.slice ap np cp, .int .i64 ar, .int .i64 ce, .slice ab nb cb] 25) = wv0 at *
         have hA_ := (Below.refl wv0.heap.size wv0).alloc (aA _) (.cells #[.int .i64 id, .int .i64 typ, .slice af n cf, .slice av m cv] 78)
         replace B2 := h! (B2.out.later hA_)
         replace HW := h! (HW.out.trans (hA_.mono HW.out.size))
         clear hA_
         have B3 := h! (Box.new wv0 #[.int .i64 id, .int .i64 typ, .slice af n cf, .slice av m cv] 78)
         rw [hz0_] at B3
         clear hz0_
         generalize wv0.alloc (.cells #[.int .i64 id, .int .i64 typ, .slice af n cf, .slice av m cv] 78) = wv at *
         obtain ⟨lB2, cB2, fB2⟩ := B2.out
         obtain ⟨lB3, cB3, fB3⟩ := B3.out
         go_wp2
         all_goals (go_ret; exact ⟨rfl, HW.out⟩))
theorem aEC {w:World} {ap ab:Option Addr} {np cp nb cb:Nat} {ar ce:Int} {id:Int} {src:List Int} {n:Nat} {af av:Option Addr} {cf cv:Nat} (hn:n=src.length) (hs:Ints w (.slice af n cf) src) :
  Calls Tryz.prog 124 #[.agg #[.slice ap np cp,.int .i64 ar,.int .i64 ce,.slice ab nb cb],.agg #[.int .i64 id,.int .i64 1,.slice af n cf,.slice av n cv]] w fun e w'=>e = .returned (.bool (src.all (numB nb) && decide src.Nodup))/\Below w.heap.size w w':=by
 obtain ⟨a,cap,b,o,hav,hc,hcm,ha,hx⟩:=hs.parts
 rw [<-hn] at hav hc ha hx
 cases hav
 have hle:=hs.1.big
 rw [<-hn] at hle
 have HN:=h! hn
 have HA:=h! ha
 have HX:=h! hx
 obtain ⟨r,hr⟩ : ∃ r,r=(src.all (numB nb) && decide src.Nodup):=⟨_,rfl⟩
 rw [<-hr]
 have HR:=h! hr
 clear hn ha hx hs hr
 go_enter Tryz.func124,Tryz.ntmps124
 go_upto_region 1 with (fail)
 have hA_:=(Below.refl w.heap.size w).alloc (aA _) (.cells #[.slice ap np cp,.int .i64 ar,.int .i64 ce,.slice ab nb cb] 25)
 have HW:=h! hA_
 clear hA_
 have B2:=h! (Box.new w #[.slice ap np cp,.int .i64 ar,.int .i64 ce,.slice ab nb cb] 25)
 have hz0_:(w.alloc (.cells #[.slice ap np cp,.int .i64 ar,.int .i64 ce,.slice ab nb cb] 25)).heap.size=w.heap.size+1:=World.size_alloc _ _
 generalize w.alloc (.cells #[.slice ap np cp,.int .i64 ar,.int .i64 ce,.slice ab nb cb] 25)=wv0 at *
 have hA_:=(Below.refl wv0.heap.size wv0).alloc (aA _) (.cells #[.int .i64 id,.int .i64 1,.slice af n cf,.slice av n cv] 78)
 replace B2:=h! (B2.out.later hA_)
 replace HW:=h! (HW.out.trans (hA_.mono HW.out.size))
 clear hA_
 have B3:=h! (Box.new wv0 #[.int .i64 id,.int .i64 1,.slice af n cf,.slice av n cv] 78)
 rw [hz0_] at B3
 clear hz0_
 generalize wv0.alloc (.cells #[.int .i64 id,.int .i64 1,.slice af n cf,.slice av n cv] 78)=wv at *
 obtain ⟨lB2,cB2,fB2⟩:=B2.out
 obtain ⟨lB3,cB3,fB3⟩:=B3.out
 go_wp2_with fail
 go_loopw [5] (fun i wr => ∃ j:Nat,j <= n/\i = .int .i64 j/\(src.take j).all (numB nb)=true/\(src.take j).Nodup/\Below w.heap.size w wr/\Box wr w.heap.size #[.slice ap np cp,.int .i64 ar,.int .i64 ce,.slice ab nb cb]/\Box wr (w.heap.size+1) #[.int .i64 id,.int .i64 1,.slice af n cf,.slice av n cv]) (fun i _=>n - (intOf i).toNat)
 case atStart=>exact ⟨0,aJ _,rfl,rfl,by simp,HW.out,B2.out,B3.out⟩
 case round =>
  obtain ⟨j,hj,rfl,hall,hnd,hW,hB2,hB3⟩:=hrel
  clear lB2 cB2 fB2 lB3 cB3 fB3
  have HALL:=h! hall
  have HND:=h! hnd
  replace HW:=h! hW
  replace B2:=h! hB2
  replace B3:=h! hB3
  clear hall hnd hW hB2 hB3
  generalize wr=wj at *
  obtain ⟨lB2,cB2,fB2⟩:=B2.out
  obtain ⟨lB3,cB3,fB3⟩:=B3.out
  by_cases hlt:j < n
  ·have hne:=HA.out (by omega)
   obtain ⟨rfl,hbw⟩:=hne
   have h0:=(HW.out.cell hbw).trans (HX.out j hlt)
   have hjx:=eZ src j (by have:=HN.out;omega)
   have HTS:=h! (eP src j _ hjx)
   have HM:=h! (aG hjx)
   have HJX:=h! hjx
   clear hjx
   obtain ⟨y,hy⟩ : ∃ y,y=src.getD j 0:=⟨_,rfl⟩
   rw [<-hy] at h0 HTS HM HJX
   have HYE:=h! hy
   clear hy
   cases hy1:decide (y < 0)
   ·cases hy2:decide ((nb:Int) <= y)
    ·have HY:Hid (numB nb y=true):=h! (by unfold numB;simp at hy1 hy2 ⊢;omega)
     go_upto_region 6 with (fail)
     go_quiet (fail)
     replace HW:=h! (eR HW.out nq)
     clear lB2 cB2 fB2 lB3 cB3 fB3
     replace B2:=h! (B2.out.drewN nq)
     replace B3:=h! (B3.out.drewN nq)
     clear h0 hy1 hy2
     generalize wj.drewN nq=wk at *
     obtain ⟨lB2,cB2,fB2⟩:=B2.out
     obtain ⟨lB3,cB3,fB3⟩:=B3.out
     go_wp2_with fail
     go_loopw [6] (fun i wr => ∃ k:Nat,k <= j/\i = .int .i64 k/\y ∉ src.take k/\Below w.heap.size w wr/\Box wr w.heap.size #[.slice ap np cp,.int .i64 ar,.int .i64 ce,.slice ab nb cb]/\Box wr (w.heap.size+1) #[.int .i64 id,.int .i64 1,.slice (some ⟨b,o,none⟩) n cf,.slice av n cv]) (fun i _=>j - (intOf i).toNat)
     case atStart=>exact ⟨0,aJ _,rfl,by simp,HW.out,B2.out,B3.out⟩
     obtain ⟨k,hk,rfl,hno,hW,hB2,hB3⟩:=hrel
     clear lB2 cB2 fB2 lB3 cB3 fB3
     have HNO:=h! hno
     replace HW:=h! hW
     replace B2:=h! hB2
     replace B3:=h! hB3
     clear hno hW hB2 hB3
     obtain ⟨lB2,cB2,fB2⟩:=B2.out
     obtain ⟨lB3,cB3,fB3⟩:=B3.out
     by_cases hlt2:k < j
     ·have h1:wr.cell? ⟨b,o+j,none⟩=some (.int .i64 y):=by rw [HYE.out];exact (HW.out.cell hbw).trans (HX.out j hlt)
      have hkn:k < n:=by omega
      have h2:=(HW.out.cell hbw).trans (HX.out k hkn)
      have hkx:=eZ src k (by have:=HN.out;omega)
      have HTS2:=h! (eP src k _ hkx)
      have HKM:Hid (src.getD k 0 ∈ src.take j):=h! (by
       rw [bJ];exact ⟨k,by rw [aW,if_pos hlt2];exact hkx⟩)
      clear hkx
      generalize src.getD k 0=z at *
      cases hzy:(z == y)
      ·have HZ:=h! hzy
       go_upto_region 11 with (fail)
       go_quiet (fail)
       go_wp2
       go_roundw
       case rel=>exact ⟨k+1,hlt2,by go_num,by rw [HTS2.out];have h3:=HZ.out;have h4:=HNO.out;simp at h3;simp [h4];exact fun e=>h3 e.symm,eR HW.out _,B2.out.drewN _,B3.out.drewN _⟩
       simp [intOf];omega
      have HZ:=h! hzy
      go_upto_region 11 with (fail)
      go_quiet (fail)
      go_wp2
      go_ret
      refine ⟨?_,eR HW.out _⟩
      have h3:z=y:=by simpa using HZ.out
      have h4:¬ src.Nodup:=fun hnd=>by
       have h5:(src.take (j+1)).Nodup:=List.Nodup.sublist (List.take_sublist _ _) hnd
       rw [HTS.out,bZ] at h5
       exact h5.2.2 z HKM.out y (by simp) h3
      rw [HR.out,decide_eq_false h4,Bool.and_false]
      rfl
     obtain rfl:k=j:=by omega
     go_wp2
     go_roundw
     case rel=>exact ⟨k+1,hlt,by go_num,by rw [HTS.out,dH,HALL.out];simp [HY.out],by rw [HTS.out,bZ];exact ⟨HND.out,by simp,fun x hx y2 hy2 e=>by simp at hy2;subst hy2;subst e;exact HNO.out hx⟩,HW.out,B2.out,B3.out⟩
     simp [intOf];omega
    have HY:Hid (numB nb y=false):=h! (by unfold numB;simp at hy1 hy2 ⊢;omega)
    go_upto_region 6 with (fail)
    go_quiet (fail)
    go_wp2
    go_ret
    exact ⟨by rw [HR.out,show src.all (numB nb)=false by (rw [cD];exact ⟨y,HM.out,by rw [HY.out];simp⟩)];rfl,eR HW.out _⟩
   have HY:Hid (numB nb y=false):=h! (by unfold numB;simp at hy1 ⊢;omega)
   go_upto_region 6 with (fail)
   go_quiet (fail)
   go_wp2
   go_ret
   exact ⟨by rw [HR.out,show src.all (numB nb)=false by (rw [cD];exact ⟨y,HM.out,by rw [HY.out];simp⟩)];rfl,eR HW.out _⟩
  obtain rfl:j=n:=by omega
  rw [aH (by have:=HN.out;omega)] at HALL HND
  go_wp2
  go_ret
  exact ⟨by rw [HR.out,HALL.out,decide_eq_true HND.out];rfl,HW.out⟩
theorem aED {w:World} {ap ab:Option Addr} {np cp nb cb:Nat} {ar ce:Int} {id:Int} {src:List Int} {n:Nat} {af av:Option Addr} {cf cv:Nat} (hn:n=src.length) (hs:Ints w (.slice af n cf) src) :
  Calls Tryz.prog 124 #[.agg #[.slice ap np cp,.int .i64 ar,.int .i64 ce,.slice ab nb cb],.agg #[.int .i64 id,.int .i64 2,.slice af n cf,.slice av n cv]] w fun e w'=>e = .returned (.bool (src.all (numB nb) && decide src.Nodup))/\Below w.heap.size w w':=by
 obtain ⟨a,cap,b,o,hav,hc,hcm,ha,hx⟩:=hs.parts
 rw [<-hn] at hav hc ha hx
 cases hav
 have hle:=hs.1.big
 rw [<-hn] at hle
 have HN:=h! hn
 have HA:=h! ha
 have HX:=h! hx
 obtain ⟨r,hr⟩ : ∃ r,r=(src.all (numB nb) && decide src.Nodup):=⟨_,rfl⟩
 rw [<-hr]
 have HR:=h! hr
 clear hn ha hx hs hr
 go_enter Tryz.func124,Tryz.ntmps124
 go_upto_region 1 with (fail)
 have hA_:=(Below.refl w.heap.size w).alloc (aA _) (.cells #[.slice ap np cp,.int .i64 ar,.int .i64 ce,.slice ab nb cb] 25)
 have HW:=h! hA_
 clear hA_
 have B2:=h! (Box.new w #[.slice ap np cp,.int .i64 ar,.int .i64 ce,.slice ab nb cb] 25)
 have hz0_:(w.alloc (.cells #[.slice ap np cp,.int .i64 ar,.int .i64 ce,.slice ab nb cb] 25)).heap.size=w.heap.size+1:=World.size_alloc _ _
 generalize w.alloc (.cells #[.slice ap np cp,.int .i64 ar,.int .i64 ce,.slice ab nb cb] 25)=wv0 at *
 have hA_:=(Below.refl wv0.heap.size wv0).alloc (aA _) (.cells #[.int .i64 id,.int .i64 2,.slice af n cf,.slice av n cv] 78)
 replace B2:=h! (B2.out.later hA_)
 replace HW:=h! (HW.out.trans (hA_.mono HW.out.size))
 clear hA_
 have B3:=h! (Box.new wv0 #[.int .i64 id,.int .i64 2,.slice af n cf,.slice av n cv] 78)
 rw [hz0_] at B3
 clear hz0_
 generalize wv0.alloc (.cells #[.int .i64 id,.int .i64 2,.slice af n cf,.slice av n cv] 78)=wv at *
 obtain ⟨lB2,cB2,fB2⟩:=B2.out
 obtain ⟨lB3,cB3,fB3⟩:=B3.out
 go_wp2_with fail
 go_loopw [5] (fun i wr => ∃ j:Nat,j <= n/\i = .int .i64 j/\(src.take j).all (numB nb)=true/\(src.take j).Nodup/\Below w.heap.size w wr/\Box wr w.heap.size #[.slice ap np cp,.int .i64 ar,.int .i64 ce,.slice ab nb cb]/\Box wr (w.heap.size+1) #[.int .i64 id,.int .i64 2,.slice af n cf,.slice av n cv]) (fun i _=>n - (intOf i).toNat)
 case atStart=>exact ⟨0,aJ _,rfl,rfl,by simp,HW.out,B2.out,B3.out⟩
 case round =>
  obtain ⟨j,hj,rfl,hall,hnd,hW,hB2,hB3⟩:=hrel
  clear lB2 cB2 fB2 lB3 cB3 fB3
  have HALL:=h! hall
  have HND:=h! hnd
  replace HW:=h! hW
  replace B2:=h! hB2
  replace B3:=h! hB3
  clear hall hnd hW hB2 hB3
  generalize wr=wj at *
  obtain ⟨lB2,cB2,fB2⟩:=B2.out
  obtain ⟨lB3,cB3,fB3⟩:=B3.out
  by_cases hlt:j < n
  ·have hne:=HA.out (by omega)
   obtain ⟨rfl,hbw⟩:=hne
   have h0:=(HW.out.cell hbw).trans (HX.out j hlt)
   have hjx:=eZ src j (by have:=HN.out;omega)
   have HTS:=h! (eP src j _ hjx)
   have HM:=h! (aG hjx)
   have HJX:=h! hjx
   clear hjx
   obtain ⟨y,hy⟩ : ∃ y,y=src.getD j 0:=⟨_,rfl⟩
   rw [<-hy] at h0 HTS HM HJX
   have HYE:=h! hy
   clear hy
   cases hy1:decide (y < 0)
   ·cases hy2:decide ((nb:Int) <= y)
    ·have HY:Hid (numB nb y=true):=h! (by unfold numB;simp at hy1 hy2 ⊢;omega)
     go_upto_region 6 with (fail)
     go_quiet (fail)
     replace HW:=h! (eR HW.out nq)
     clear lB2 cB2 fB2 lB3 cB3 fB3
     replace B2:=h! (B2.out.drewN nq)
     replace B3:=h! (B3.out.drewN nq)
     clear h0 hy1 hy2
     generalize wj.drewN nq=wk at *
     obtain ⟨lB2,cB2,fB2⟩:=B2.out
     obtain ⟨lB3,cB3,fB3⟩:=B3.out
     go_wp2_with fail
     go_loopw [6] (fun i wr => ∃ k:Nat,k <= j/\i = .int .i64 k/\y ∉ src.take k/\Below w.heap.size w wr/\Box wr w.heap.size #[.slice ap np cp,.int .i64 ar,.int .i64 ce,.slice ab nb cb]/\Box wr (w.heap.size+1) #[.int .i64 id,.int .i64 2,.slice (some ⟨b,o,none⟩) n cf,.slice av n cv]) (fun i _=>j - (intOf i).toNat)
     case atStart=>exact ⟨0,aJ _,rfl,by simp,HW.out,B2.out,B3.out⟩
     obtain ⟨k,hk,rfl,hno,hW,hB2,hB3⟩:=hrel
     clear lB2 cB2 fB2 lB3 cB3 fB3
     have HNO:=h! hno
     replace HW:=h! hW
     replace B2:=h! hB2
     replace B3:=h! hB3
     clear hno hW hB2 hB3
     obtain ⟨lB2,cB2,fB2⟩:=B2.out
     obtain ⟨lB3,cB3,fB3⟩:=B3.out
     by_cases hlt2:k < j
     ·have h1:wr.cell? ⟨b,o+j,none⟩=some (.int .i64 y):=by rw [HYE.out];exact (HW.out.cell hbw).trans (HX.out j hlt)
      have hkn:k < n:=by omega
      have h2:=(HW.out.cell hbw).trans (HX.out k hkn)
      have hkx:=eZ src k (by have:=HN.out;omega)
      have HTS2:=h! (eP src k _ hkx)
      have HKM:Hid (src.getD k 0 ∈ src.take j):=h! (by
       rw [bJ];exact ⟨k,by rw [aW,if_pos hlt2];exact hkx⟩)
      clear hkx
      generalize src.getD k 0=z at *
      cases hzy:(z == y)
      ·have HZ:=h! hzy
       go_upto_region 11 with (fail)
       go_quiet (fail)
       go_wp2
       go_roundw
       case rel=>exact ⟨k+1,hlt2,by go_num,by rw [HTS2.out];have h3:=HZ.out;have h4:=HNO.out;simp at h3;simp [h4];exact fun e=>h3 e.symm,eR HW.out _,B2.out.drewN _,B3.out.drewN _⟩
       simp [intOf];omega
      have HZ:=h! hzy
      go_upto_region 11 with (fail)
      go_quiet (fail)
      go_wp2
      go_ret
      refine ⟨?_,eR HW.out _⟩
      have h3:z=y:=by simpa using HZ.out
      have h4:¬ src.Nodup:=fun hnd=>by
       have h5:(src.take (j+1)).Nodup:=List.Nodup.sublist (List.take_sublist _ _) hnd
       rw [HTS.out,bZ] at h5
       exact h5.2.2 z HKM.out y (by simp) h3
      rw [HR.out,decide_eq_false h4,Bool.and_false]
      rfl
     obtain rfl:k=j:=by omega
     go_wp2
     go_roundw
     case rel=>exact ⟨k+1,hlt,by go_num,by rw [HTS.out,dH,HALL.out];simp [HY.out],by rw [HTS.out,bZ];exact ⟨HND.out,by simp,fun x hx y2 hy2 e=>by simp at hy2;subst hy2;subst e;exact HNO.out hx⟩,HW.out,B2.out,B3.out⟩
     simp [intOf];omega
    have HY:Hid (numB nb y=false):=h! (by unfold numB;simp at hy1 hy2 ⊢;omega)
    go_upto_region 6 with (fail)
    go_quiet (fail)
    go_wp2
    go_ret
    exact ⟨by rw [HR.out,show src.all (numB nb)=false by (rw [cD];exact ⟨y,HM.out,by rw [HY.out];simp⟩)];rfl,eR HW.out _⟩
   have HY:Hid (numB nb y=false):=h! (by unfold numB;simp at hy1 ⊢;omega)
   go_upto_region 6 with (fail)
   go_quiet (fail)
   go_wp2
   go_ret
   exact ⟨by rw [HR.out,show src.all (numB nb)=false by (rw [cD];exact ⟨y,HM.out,by rw [HY.out];simp⟩)];rfl,eR HW.out _⟩
  obtain rfl:j=n:=by omega
  rw [aH (by have:=HN.out;omega)] at HALL HND
  go_wp2
  go_ret
  exact ⟨by rw [HR.out,HALL.out,decide_eq_true HND.out];rfl,HW.out⟩
theorem aFP {w:World} {ap ab:Option Addr} {np cp nb cb:Nat} {ar ce:Int} {x:PhiD} {af av:Option Addr} {cf cv:Nat} (hs:Ints w (.slice af x.src.length cf) x.src) :
  Calls Tryz.prog 124 #[.agg #[.slice ap np cp,.int .i64 ar,.int .i64 ce,.slice ab nb cb],.agg (phiA x af av cf cv)] w fun e w'=>e = .returned (.bool (iL nb x))/\Below w.heap.size w w':=by
 cases hg:((x.typ == 1 || x.typ == 2) && (x.src.length == x.vals.length))
 ·have hok:iL nb x=false:=by unfold iL;rw [hg];rfl
  rw [hok]
  exact aAD (fv:=#[.nilIface,.nilIface,.nilIface,.nilIface]) rfl hg
 ·have hok:iL nb x=(x.src.all (numB nb) && decide x.src.Nodup):=by unfold iL;rw [hg];rfl
  rw [hok]
  simp only [aK,cJ,beq_iff_eq] at hg
  unfold phiA
  rw [<-hg.2]
  rcases hg.1 with h | h
  ·rw [h];exact aEC rfl hs
  rw [h];exact aED rfl hs
end Go.Proofs.YtagabiidbbhhmaaGreat
