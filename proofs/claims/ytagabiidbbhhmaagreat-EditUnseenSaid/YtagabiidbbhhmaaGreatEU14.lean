/- Part 14. -/
import Derived.Test.YtagabiidbbhhmaaGreatEU13
namespace Go.Proofs.YtagabiidbbhhmaaGreat
set_option maxHeartbeats 6400000
set_option linter.all false
open Go.RowKit
theorem zX {f:FuncD} (hno:jI f=false):16 < f.params.length \/ (f.params.length <= 16/\f.arrays < 0) \/ (f.params.length <= 16/\0 <= f.arrays/\8 < f.arrays) \/ (f.params.length <= 16/\0 <= f.arrays/\f.arrays <= 8/\f.cells < 0) \/ (f.params.length <= 16/\0 <= f.arrays/\f.arrays <= 8/\0 <= f.cells/\64 < f.cells) \/
   (f.params.length <= 16/\0 <= f.arrays/\f.arrays <= 8/\0 <= f.cells/\f.cells <= 64/\f.blocks.length < 1) \/ (f.params.length <= 16/\0 <= f.arrays/\f.arrays <= 8/\0 <= f.cells/\f.cells <= 64/\1 <= f.blocks.length/\512 < f.blocks.length) \/
   (f.params.length <= 16/\0 <= f.arrays/\f.arrays <= 8/\0 <= f.cells/\f.cells <= 64/\1 <= f.blocks.length/\f.blocks.length <= 512/\4096 < kY f):=by
 by_cases h1:16 < f.params.length
 ·exact .inl h1
 ·by_cases h2:f.arrays < 0
  ·exact .inr (.inl ⟨by omega,h2⟩)
  by_cases h3:8 < f.arrays
  ·exact .inr (.inr (.inl ⟨by omega,by omega,h3⟩))
  by_cases h4:f.cells < 0
  ·exact .inr (.inr (.inr (.inl ⟨by omega,by omega,by omega,h4⟩)))
  by_cases h5:64 < f.cells
  ·exact .inr (.inr (.inr (.inr (.inl ⟨by omega,by omega,by omega,by omega,h5⟩))))
  by_cases h6:f.blocks.length < 1
  ·exact .inr (.inr (.inr (.inr (.inr (.inl ⟨by omega,by omega,by omega,by omega,by omega,h6⟩)))))
  by_cases h7:512 < f.blocks.length
  ·exact .inr (.inr (.inr (.inr (.inr (.inr (.inl ⟨by omega,by omega,by omega,by omega,by omega,by omega,h7⟩))))))
  refine .inr (.inr (.inr (.inr (.inr (.inr (.inr ⟨by omega,by omega,by omega,by omega,by omega,by omega,by omega, ?_⟩))))))
  unfold jI at hno
  simp at hno
  have:=hno (by omega) (by omega) (by omega) (by omega) (by omega) (by omega) (by omega)
  omega
set_option maxRecDepth 100000 in
theorem tF {w:World} {v:Value} {f:FuncD} (hv:fP w v f) (hno:jI f=false) :
  Calls Tryz.prog 69 #[v] w fun e w'=>e = .returned (.bool false)/\Below w.heap.size w w':=by
 have HV:=h! hv
 obtain ⟨ap,cp,ab,cb,rfl,hp,ha,hc,hB⟩:=hv.form
 have aa:=zX hno
 clear hno hp ha hc hB hv
 obtain ⟨np,ae⟩ : ∃ np,np=f.params.length:=⟨_,rfl⟩
 obtain ⟨nb,ad⟩ : ∃ nb,nb=f.blocks.length:=⟨_,rfl⟩
 obtain ⟨ar,af⟩ : ∃ ar,ar=f.arrays:=⟨_,rfl⟩
 obtain ⟨ce,ai⟩ : ∃ ce,ce=f.cells:=⟨_,rfl⟩
 obtain ⟨sz,ac⟩ : ∃ sz,sz=kY f:=⟨_,rfl⟩
 rw [<-ae, <-ad, <-af, <-ai] at HV aa ⊢
 rw [<-ac] at aa
 have aj:=h! ad
 have ak:=h! ac
 clear ae ad af ai ac
 rcases aa with h | ⟨h1,h⟩ | ⟨h1,h2,h⟩ | ⟨h1,h2,h3,h⟩ | ⟨h1,h2,h3,h4,h⟩ | ⟨h1,h2,h3,h4,h5,h⟩ | ⟨h1,h2,h3,h4,h5,h6,h⟩ | ⟨h1,h2,h3,h4,h5,h6,h7,h⟩
 all_goals
  go_enter Tryz.func69,Tryz.ntmps69
  go_upto_region 1 with (fail)
  have ah:=(Below.refl w.heap.size w).alloc (aC _) (.cells #[.slice ap np cp,.int .i64 ar,.int .i64 ce,.slice ab nb cb] 25)
  have HW:=h! ah
  clear ah
  have B1:=h! (Box.new w #[.slice ap np cp,.int .i64 ar,.int .i64 ce,.slice ab nb cb] 25)
  generalize w.alloc (.cells #[.slice ap np cp,.int .i64 ar,.int .i64 ce,.slice ab nb cb] 25)=wv at *
  obtain ⟨lB1,cB1,fB1⟩:=B1.out
  go_wp2_with (go_at_call 123;refine (yV (HV.out.below HW.out) (by rw [<-aj.out];assumption)).mono ?_;rintro e w1 ⟨rfl,ag⟩;have al:=h! (HW.out.trans (ag.mono HW.out.size));clear ag;rw [<-ak.out])
  go_ret
  first | exact ⟨rfl,al.out⟩ | exact ⟨rfl,HW.out⟩
def toOk (nb:Nat) (b:Int):Bool:=decide (1 <= b) && decide (b < (nb:Int))
theorem aB9 (nb:Nat) (t:TermD):iR nb t=(t.to.all (toOk nb) && ((t.op == 1 && ((t.to.length:Int) == 1) && t.val == -1 && t.n == 0) || (t.op == 2 && ((t.to.length:Int) == 2) && t.n == 0) || (t.op == 3 && ((t.to.length:Int) == 0) && t.n == 0) || (t.op == 4 && ((t.to.length:Int) == 0) && t.val == -1 && decide (0 <= t.n)))):=by
 unfold iR
 rw [show (t.to.length == 1)=((t.to.length:Int) == 1) by (rw [bU];simp;omega),show (t.to.length == 2)=((t.to.length:Int) == 2) by (rw [bU];simp;omega),show (t.to.length == 0)=((t.to.length:Int) == 0) by (rw [bU];simp)]
 rfl
theorem aFI {w:World} {ap ab:Option Addr} {np cp nb cb:Nat} {ar ce:Int} {t:TermD} {at_:Option Addr} {ct:Nat} (hs:Ints w (.slice at_ t.to.length ct) t.to) :
  Calls Tryz.prog 126 #[.agg #[.slice ap np cp,.int .i64 ar,.int .i64 ce,.slice ab nb cb],.agg (aCR t at_ ct)] w fun e w'=>e = .returned (.bool (iR nb t))/\Below w.heap.size w w':=by
 have HE:=h! (aB9 nb t)
 obtain ⟨r,hr⟩ : ∃ r,r=iR nb t:=⟨_,rfl⟩
 rw [<-hr] at HE ⊢
 clear hr
 obtain ⟨op,val,to,N⟩:=t
 unfold aCR
 simp only at *
 obtain ⟨a,cap,b,o,ay,hc,hcm,ha,hx⟩:=hs.parts
 cases ay
 have aw:=hs.1.big
 obtain ⟨n,hn⟩ : ∃ n,n=to.length:=⟨_,rfl⟩
 rw [<-hn] at HE hc ha hx aw ⊢
 have HN:=h! hn
 have HA:=h! ha
 have HX:=h! hx
 clear hn ha hx hs
 go_enter Tryz.func126,Tryz.ntmps126
 go_upto_region 1 with (fail)
 have ac:=(Below.refl w.heap.size w).alloc (aC _) (.cells #[.slice ap np cp,.int .i64 ar,.int .i64 ce,.slice ab nb cb] 25)
 have HW:=h! ac
 clear ac
 have B2:=h! (Box.new w #[.slice ap np cp,.int .i64 ar,.int .i64 ce,.slice ab nb cb] 25)
 have ae:(w.alloc (.cells #[.slice ap np cp,.int .i64 ar,.int .i64 ce,.slice ab nb cb] 25)).heap.size=w.heap.size+1:=World.size_alloc _ _
 generalize w.alloc (.cells #[.slice ap np cp,.int .i64 ar,.int .i64 ce,.slice ab nb cb] 25)=af at *
 have ac:=(Below.refl af.heap.size af).alloc (aC _) (.cells #[.int .i64 op,.int .i64 val,.slice at_ n ct,.int .i64 N] 61)
 replace B2:=h! (B2.out.later ac)
 replace HW:=h! (HW.out.trans (ac.mono HW.out.size))
 clear ac
 have B3:=h! (Box.new af #[.int .i64 op,.int .i64 val,.slice at_ n ct,.int .i64 N] 61)
 rw [ae] at B3
 clear ae
 generalize af.alloc (.cells #[.int .i64 op,.int .i64 val,.slice at_ n ct,.int .i64 N] 61)=wv at *
 obtain ⟨ak,ah,an⟩:=B2.out
 obtain ⟨al,ai,ao⟩:=B3.out
 go_wp2_with fail
 go_loopw [5] (fun i wr => ∃ j:Nat,j <= n/\i = .int .i64 j/\(to.take j).all (toOk nb)=true/\Below w.heap.size w wr/\Box wr w.heap.size #[.slice ap np cp,.int .i64 ar,.int .i64 ce,.slice ab nb cb]/\Box wr (w.heap.size+1) #[.int .i64 op,.int .i64 val,.slice at_ n ct,.int .i64 N]) (fun i _=>n - (intOf i).toNat)
 case atStart=>exact ⟨0,aH _,rfl,rfl,HW.out,B2.out,B3.out⟩
 case round =>
  obtain ⟨j,hj,rfl,ad,hW,am,aj⟩:=hrel
  clear ak ah an al ai ao
  have aa:=h! ad
  replace HW:=h! hW
  replace B2:=h! am
  replace B3:=h! aj
  clear ad hW am aj
  obtain ⟨ak,ah,an⟩:=B2.out
  obtain ⟨al,ai,ao⟩:=B3.out
  by_cases hlt:j < n
  ·obtain ⟨rfl,ax⟩:=HA.out (by omega)
   have h0:=(HW.out.cell ax).trans (HX.out j hlt)
   have ag:=fI to j (by have:=HN.out;omega)
   have aq:=h! (eS to j _ ag)
   have HM:=h! (aG ag)
   clear ag
   generalize to.getD j 0=y at *
   cases hy1:decide (y < 1)
   ·cases hy2:decide ((nb:Int) <= y)
    ·have HY:Hid (toOk nb y=true):=h! (by unfold toOk;simp at hy1 hy2 ⊢;omega)
     go_upto_region 4 with (fail)
     go_quiet (fail)
     go_wp2
     go_roundw
     case rel=>exact ⟨j+1,hlt,by go_num,by rw [aq.out,dF,aa.out];simp [HY.out],eT HW.out _,B2.out.drewN _,B3.out.drewN _⟩
     simp [intOf];omega
    have HY:Hid (toOk nb y=false):=h! (by unfold toOk;simp at hy1 hy2 ⊢;omega)
    go_upto_region 4 with (fail)
    go_quiet (fail)
    go_wp2
    go_ret
    exact ⟨by rw [HE.out,show to.all (toOk nb)=false by (rw [cE];exact ⟨y,HM.out,by rw [HY.out];simp⟩)];rfl,eT HW.out _⟩
   have HY:Hid (toOk nb y=false):=h! (by unfold toOk;simp at hy1 ⊢;omega)
   go_upto_region 4 with (fail)
   go_quiet (fail)
   go_wp2
   go_ret
   exact ⟨by rw [HE.out,show to.all (toOk nb)=false by (rw [cE];exact ⟨y,HM.out,by rw [HY.out];simp⟩)];rfl,eT HW.out _⟩
  obtain rfl:j=n:=by omega
  rw [aJ (by have:=HN.out;omega)] at aa
  rw [aa.out,bL] at HE
  by_cases h1:op=1
  ·subst h1
   cases hn1:((j:Int) == 1) <;> cases hv:(val == -1) <;> cases hN:(N == 0)
   all_goals
    rw [hn1,hv,hN] at HE
    go_wp2
    go_ret
    exact ⟨by rw [HE.out];simp,HW.out⟩
  by_cases h2:op=2
  ·subst h2
   cases hn1:((j:Int) == 2) <;> cases hN:(N == 0)
   all_goals
    rw [hn1,hN] at HE
    clear h1
    go_wp2
    go_ret
    exact ⟨by rw [HE.out];simp,HW.out⟩
  by_cases h3:op=3
  ·subst h3
   cases hn1:((j:Int) == 0) <;> cases hN:(N == 0)
   all_goals
    rw [hn1,hN] at HE
    clear h1 h2
    go_wp2
    go_ret
    exact ⟨by rw [HE.out];simp,HW.out⟩
  by_cases h4:op=4
  ·subst h4
   cases hn1:((j:Int) == 0) <;> cases hv:(val == -1) <;> cases hN:decide (0 <= N)
   all_goals
    rw [hn1,hv,hN] at HE
    clear h1 h2 h3
    go_wp2
    go_ret
    exact ⟨by rw [HE.out];simp,HW.out⟩
  have e1:(op == 1)=false:=by simpa using h1
  have e2:(op == 2)=false:=by simpa using h2
  have e3:(op == 3)=false:=by simpa using h3
  have e4:(op == 4)=false:=by simpa using h4
  clear h1 h2 h3 h4
  rw [e1,e2,e3,e4] at HE
  go_wp2
  go_ret
  exact ⟨by rw [HE.out];simp,HW.out⟩
theorem zY {w : World} {fv : Array Value} (hf : fv.size = 4) {id typ : Int} {af av : Option Addr} {n m cf cv : Nat} {ap ab : Option Addr} {np cp nb cb : Nat} {ar ce : Int} (h : ((typ == 1 || typ == 2) && (n == m)) = false) :
    Calls Tryz.prog 124 #[.agg #[.slice ap np cp, .int .i64 ar, .int .i64 ce, .slice ab nb cb], .agg #[.int .i64 id, .int .i64 typ, .slice af n cf, .slice av m cv]] w fun e w' => e = .returned (.bool false) ∧ Below w.heap.size w w' := by
  clear hf
  cases ht1 : (typ == 1) <;> cases ht2 : (typ == 2) <;> cases hl : ((n : Int) == (m : Int))
  all_goals
    first
      | (have hnm : n = m := by simp at hl; omega
         subst hnm
         rw [ht1, ht2] at h
         simp at h; done)
      | (clear h
         go_enter Tryz.func124, Tryz.ntmps124
         go_upto_region 1 with (fail)
         have aa := (Below.refl w.heap.size w).alloc (aC _) (.cells #[.slice ap np cp, .int .i64 ar, .int .i64 ce, .slice ab nb cb] 25)
         have HW := h! aa
         clear aa
         have B2 := h! (Box.new w #[.slice ap np cp, .int .i64 ar, .int .i64 ce, .slice ab nb cb] 25)
         have ac : (w.alloc (.cells #[.slice ap np cp, .int .i64 ar, .int .i64 ce, .slice ab nb cb] 25)).heap.size = w.heap.size + 1 := World.size_alloc _ _
         generalize w.alloc (.cells #[.slice ap np cp, .int .i64 ar, .int .i64 ce, .slice ab nb cb] 25) = ad at *
         have aa := (Below.refl ad.heap.size ad).alloc (aC _) (.cells #[.int .i64 id, .int .i64 typ, .slice af n cf, .slice av m cv] 78)
         replace B2 := h! (B2.out.later aa)
         replace HW := h! (HW.out.trans (aa.mono HW.out.size))
         clear aa
         have B3 := h! (Box.new ad #[.int .i64 id, .int .i64 typ, .slice af n cf, .slice av m cv] 78)
         rw [ac] at B3
         clear ac
         generalize ad.alloc (.cells #[.int .i64 id, .int .i64 typ, .slice af n cf, .slice av m cv] 78) = wv at *
         obtain ⟨lB2, cB2, fB2⟩ := B2.out
         obtain ⟨lB3, cB3, fB3⟩ := B3.out
         go_wp2
         all_goals (go_ret; exact ⟨rfl, HW.out⟩))
theorem aD2 {w:World} {ap ab:Option Addr} {np cp nb cb:Nat} {ar ce:Int} {id:Int} {src:List Int} {n:Nat} {af av:Option Addr} {cf cv:Nat} (hn:n=src.length) (hs:Ints w (.slice af n cf) src) :
  Calls Tryz.prog 124 #[.agg #[.slice ap np cp,.int .i64 ar,.int .i64 ce,.slice ab nb cb],.agg #[.int .i64 id,.int .i64 1,.slice af n cf,.slice av n cv]] w fun e w'=>e = .returned (.bool (src.all (numB nb) && decide src.Nodup))/\Below w.heap.size w w':=by
 obtain ⟨a,cap,b,o,bd,hc,hcm,ha,hx⟩:=hs.parts
 rw [<-hn] at bd hc ha hx
 cases bd
 have be:=hs.1.big
 rw [<-hn] at be
 have HN:=h! hn
 have HA:=h! ha
 have HX:=h! hx
 obtain ⟨r,hr⟩ : ∃ r,r=(src.all (numB nb) && decide src.Nodup):=⟨_,rfl⟩
 rw [<-hr]
 have HR:=h! hr
 clear hn ha hx hs hr
 go_enter Tryz.func124,Tryz.ntmps124
 go_upto_region 1 with (fail)
 have ae:=(Below.refl w.heap.size w).alloc (aC _) (.cells #[.slice ap np cp,.int .i64 ar,.int .i64 ce,.slice ab nb cb] 25)
 have HW:=h! ae
 clear ae
 have B2:=h! (Box.new w #[.slice ap np cp,.int .i64 ar,.int .i64 ce,.slice ab nb cb] 25)
 have al:(w.alloc (.cells #[.slice ap np cp,.int .i64 ar,.int .i64 ce,.slice ab nb cb] 25)).heap.size=w.heap.size+1:=World.size_alloc _ _
 generalize w.alloc (.cells #[.slice ap np cp,.int .i64 ar,.int .i64 ce,.slice ab nb cb] 25)=aw at *
 have ae:=(Below.refl aw.heap.size aw).alloc (aC _) (.cells #[.int .i64 id,.int .i64 1,.slice af n cf,.slice av n cv] 78)
 replace B2:=h! (B2.out.later ae)
 replace HW:=h! (HW.out.trans (ae.mono HW.out.size))
 clear ae
 have B3:=h! (Box.new aw #[.int .i64 id,.int .i64 1,.slice af n cf,.slice av n cv] 78)
 rw [al] at B3
 clear al
 generalize aw.alloc (.cells #[.int .i64 id,.int .i64 1,.slice af n cf,.slice av n cv] 78)=wv at *
 obtain ⟨ag,ac,ai⟩:=B2.out
 obtain ⟨ah,ad,aj⟩:=B3.out
 go_wp2_with fail
 go_loopw [5] (fun i wr => ∃ j:Nat,j <= n/\i = .int .i64 j/\(src.take j).all (numB nb)=true/\(src.take j).Nodup/\Below w.heap.size w wr/\Box wr w.heap.size #[.slice ap np cp,.int .i64 ar,.int .i64 ce,.slice ab nb cb]/\Box wr (w.heap.size+1) #[.int .i64 id,.int .i64 1,.slice af n cf,.slice av n cv]) (fun i _=>n - (intOf i).toNat)
 case atStart=>exact ⟨0,aH _,rfl,rfl,by simp,HW.out,B2.out,B3.out⟩
 case round =>
  obtain ⟨j,hj,rfl,ak,hnd,hW,an,am⟩:=hrel
  clear ag ac ai ah ad aj
  have aa:=h! ak
  have ba:=h! hnd
  replace HW:=h! hW
  replace B2:=h! an
  replace B3:=h! am
  clear ak hnd hW an am
  generalize wr=wj at *
  obtain ⟨ag,ac,ai⟩:=B2.out
  obtain ⟨ah,ad,aj⟩:=B3.out
  by_cases hlt:j < n
  ·have bh:=HA.out (by omega)
   obtain ⟨rfl,ay⟩:=bh
   have h0:=(HW.out.cell ay).trans (HX.out j hlt)
   have aq:=fI src j (by have:=HN.out;omega)
   have ao:=h! (eS src j _ aq)
   have HM:=h! (aG aq)
   have bg:=h! aq
   clear aq
   obtain ⟨y,hy⟩ : ∃ y,y=src.getD j 0:=⟨_,rfl⟩
   rw [<-hy] at h0 ao HM bg
   have bi:=h! hy
   clear hy
   cases hy1:decide (y < 0)
   ·cases hy2:decide ((nb:Int) <= y)
    ·have HY:Hid (numB nb y=true):=h! (by unfold numB;simp at hy1 hy2 ⊢;omega)
     go_upto_region 6 with (fail)
     go_quiet (fail)
     replace HW:=h! (eT HW.out nq)
     clear ag ac ai ah ad aj
     replace B2:=h! (B2.out.drewN nq)
     replace B3:=h! (B3.out.drewN nq)
     clear h0 hy1 hy2
     generalize wj.drewN nq=wk at *
     obtain ⟨ag,ac,ai⟩:=B2.out
     obtain ⟨ah,ad,aj⟩:=B3.out
     go_wp2_with fail
     go_loopw [6] (fun i wr => ∃ k:Nat,k <= j/\i = .int .i64 k/\y ∉ src.take k/\Below w.heap.size w wr/\Box wr w.heap.size #[.slice ap np cp,.int .i64 ar,.int .i64 ce,.slice ab nb cb]/\Box wr (w.heap.size+1) #[.int .i64 id,.int .i64 1,.slice (some ⟨b,o,none⟩) n cf,.slice av n cv]) (fun i _=>j - (intOf i).toNat)
     case atStart=>exact ⟨0,aH _,rfl,by simp,HW.out,B2.out,B3.out⟩
     obtain ⟨k,hk,rfl,bb,hW,an,am⟩:=hrel
     clear ag ac ai ah ad aj
     have bc:=h! bb
     replace HW:=h! hW
     replace B2:=h! an
     replace B3:=h! am
     clear bb hW an am
     obtain ⟨ag,ac,ai⟩:=B2.out
     obtain ⟨ah,ad,aj⟩:=B3.out
     by_cases hlt2:k < j
     ·have h1:wr.cell? ⟨b,o+j,none⟩=some (.int .i64 y):=by rw [bi.out];exact (HW.out.cell ay).trans (HX.out j hlt)
      have bj:k < n:=by omega
      have h2:=(HW.out.cell ay).trans (HX.out k bj)
      have az:=fI src k (by have:=HN.out;omega)
      have ax:=h! (eS src k _ az)
      have bf:Hid (src.getD k 0 ∈ src.take j):=h! (by
       rw [bJ];exact ⟨k,by rw [aW,if_pos hlt2];exact az⟩)
      clear az
      generalize src.getD k 0=z at *
      cases hzy:(z == y)
      ·have HZ:=h! hzy
       go_upto_region 11 with (fail)
       go_quiet (fail)
       go_wp2
       go_roundw
       case rel=>exact ⟨k+1,hlt2,by go_num,by rw [ax.out];have h3:=HZ.out;have h4:=bc.out;simp at h3;simp [h4];exact fun e=>h3 e.symm,eT HW.out _,B2.out.drewN _,B3.out.drewN _⟩
       simp [intOf];omega
      have HZ:=h! hzy
      go_upto_region 11 with (fail)
      go_quiet (fail)
      go_wp2
      go_ret
      refine ⟨?_,eT HW.out _⟩
      have h3:z=y:=by simpa using HZ.out
      have h4:¬ src.Nodup:=fun hnd=>by
       have h5:(src.take (j+1)).Nodup:=List.Nodup.sublist (List.take_sublist _ _) hnd
       rw [ao.out,bW] at h5
       exact h5.2.2 z bf.out y (by simp) h3
      rw [HR.out,decide_eq_false h4,Bool.and_false]
      rfl
     obtain rfl:k=j:=by omega
     go_wp2
     go_roundw
     case rel=>exact ⟨k+1,hlt,by go_num,by rw [ao.out,dF,aa.out];simp [HY.out],by rw [ao.out,bW];exact ⟨ba.out,by simp,fun x hx y2 hy2 e=>by simp at hy2;subst hy2;subst e;exact bc.out hx⟩,HW.out,B2.out,B3.out⟩
     simp [intOf];omega
    have HY:Hid (numB nb y=false):=h! (by unfold numB;simp at hy1 hy2 ⊢;omega)
    go_upto_region 6 with (fail)
    go_quiet (fail)
    go_wp2
    go_ret
    exact ⟨by rw [HR.out,show src.all (numB nb)=false by (rw [cE];exact ⟨y,HM.out,by rw [HY.out];simp⟩)];rfl,eT HW.out _⟩
   have HY:Hid (numB nb y=false):=h! (by unfold numB;simp at hy1 ⊢;omega)
   go_upto_region 6 with (fail)
   go_quiet (fail)
   go_wp2
   go_ret
   exact ⟨by rw [HR.out,show src.all (numB nb)=false by (rw [cE];exact ⟨y,HM.out,by rw [HY.out];simp⟩)];rfl,eT HW.out _⟩
  obtain rfl:j=n:=by omega
  rw [aJ (by have:=HN.out;omega)] at aa ba
  go_wp2
  go_ret
  exact ⟨by rw [HR.out,aa.out,decide_eq_true ba.out];rfl,HW.out⟩
theorem aD3 {w:World} {ap ab:Option Addr} {np cp nb cb:Nat} {ar ce:Int} {id:Int} {src:List Int} {n:Nat} {af av:Option Addr} {cf cv:Nat} (hn:n=src.length) (hs:Ints w (.slice af n cf) src) :
  Calls Tryz.prog 124 #[.agg #[.slice ap np cp,.int .i64 ar,.int .i64 ce,.slice ab nb cb],.agg #[.int .i64 id,.int .i64 2,.slice af n cf,.slice av n cv]] w fun e w'=>e = .returned (.bool (src.all (numB nb) && decide src.Nodup))/\Below w.heap.size w w':=by
 obtain ⟨a,cap,b,o,bd,hc,hcm,ha,hx⟩:=hs.parts
 rw [<-hn] at bd hc ha hx
 cases bd
 have be:=hs.1.big
 rw [<-hn] at be
 have HN:=h! hn
 have HA:=h! ha
 have HX:=h! hx
 obtain ⟨r,hr⟩ : ∃ r,r=(src.all (numB nb) && decide src.Nodup):=⟨_,rfl⟩
 rw [<-hr]
 have HR:=h! hr
 clear hn ha hx hs hr
 go_enter Tryz.func124,Tryz.ntmps124
 go_upto_region 1 with (fail)
 have ae:=(Below.refl w.heap.size w).alloc (aC _) (.cells #[.slice ap np cp,.int .i64 ar,.int .i64 ce,.slice ab nb cb] 25)
 have HW:=h! ae
 clear ae
 have B2:=h! (Box.new w #[.slice ap np cp,.int .i64 ar,.int .i64 ce,.slice ab nb cb] 25)
 have al:(w.alloc (.cells #[.slice ap np cp,.int .i64 ar,.int .i64 ce,.slice ab nb cb] 25)).heap.size=w.heap.size+1:=World.size_alloc _ _
 generalize w.alloc (.cells #[.slice ap np cp,.int .i64 ar,.int .i64 ce,.slice ab nb cb] 25)=aw at *
 have ae:=(Below.refl aw.heap.size aw).alloc (aC _) (.cells #[.int .i64 id,.int .i64 2,.slice af n cf,.slice av n cv] 78)
 replace B2:=h! (B2.out.later ae)
 replace HW:=h! (HW.out.trans (ae.mono HW.out.size))
 clear ae
 have B3:=h! (Box.new aw #[.int .i64 id,.int .i64 2,.slice af n cf,.slice av n cv] 78)
 rw [al] at B3
 clear al
 generalize aw.alloc (.cells #[.int .i64 id,.int .i64 2,.slice af n cf,.slice av n cv] 78)=wv at *
 obtain ⟨ag,ac,ai⟩:=B2.out
 obtain ⟨ah,ad,aj⟩:=B3.out
 go_wp2_with fail
 go_loopw [5] (fun i wr => ∃ j:Nat,j <= n/\i = .int .i64 j/\(src.take j).all (numB nb)=true/\(src.take j).Nodup/\Below w.heap.size w wr/\Box wr w.heap.size #[.slice ap np cp,.int .i64 ar,.int .i64 ce,.slice ab nb cb]/\Box wr (w.heap.size+1) #[.int .i64 id,.int .i64 2,.slice af n cf,.slice av n cv]) (fun i _=>n - (intOf i).toNat)
 case atStart=>exact ⟨0,aH _,rfl,rfl,by simp,HW.out,B2.out,B3.out⟩
 case round =>
  obtain ⟨j,hj,rfl,ak,hnd,hW,an,am⟩:=hrel
  clear ag ac ai ah ad aj
  have aa:=h! ak
  have ba:=h! hnd
  replace HW:=h! hW
  replace B2:=h! an
  replace B3:=h! am
  clear ak hnd hW an am
  generalize wr=wj at *
  obtain ⟨ag,ac,ai⟩:=B2.out
  obtain ⟨ah,ad,aj⟩:=B3.out
  by_cases hlt:j < n
  ·have bh:=HA.out (by omega)
   obtain ⟨rfl,ay⟩:=bh
   have h0:=(HW.out.cell ay).trans (HX.out j hlt)
   have aq:=fI src j (by have:=HN.out;omega)
   have ao:=h! (eS src j _ aq)
   have HM:=h! (aG aq)
   have bg:=h! aq
   clear aq
   obtain ⟨y,hy⟩ : ∃ y,y=src.getD j 0:=⟨_,rfl⟩
   rw [<-hy] at h0 ao HM bg
   have bi:=h! hy
   clear hy
   cases hy1:decide (y < 0)
   ·cases hy2:decide ((nb:Int) <= y)
    ·have HY:Hid (numB nb y=true):=h! (by unfold numB;simp at hy1 hy2 ⊢;omega)
     go_upto_region 6 with (fail)
     go_quiet (fail)
     replace HW:=h! (eT HW.out nq)
     clear ag ac ai ah ad aj
     replace B2:=h! (B2.out.drewN nq)
     replace B3:=h! (B3.out.drewN nq)
     clear h0 hy1 hy2
     generalize wj.drewN nq=wk at *
     obtain ⟨ag,ac,ai⟩:=B2.out
     obtain ⟨ah,ad,aj⟩:=B3.out
     go_wp2_with fail
     go_loopw [6] (fun i wr => ∃ k:Nat,k <= j/\i = .int .i64 k/\y ∉ src.take k/\Below w.heap.size w wr/\Box wr w.heap.size #[.slice ap np cp,.int .i64 ar,.int .i64 ce,.slice ab nb cb]/\Box wr (w.heap.size+1) #[.int .i64 id,.int .i64 2,.slice (some ⟨b,o,none⟩) n cf,.slice av n cv]) (fun i _=>j - (intOf i).toNat)
     case atStart=>exact ⟨0,aH _,rfl,by simp,HW.out,B2.out,B3.out⟩
     obtain ⟨k,hk,rfl,bb,hW,an,am⟩:=hrel
     clear ag ac ai ah ad aj
     have bc:=h! bb
     replace HW:=h! hW
     replace B2:=h! an
     replace B3:=h! am
     clear bb hW an am
     obtain ⟨ag,ac,ai⟩:=B2.out
     obtain ⟨ah,ad,aj⟩:=B3.out
     by_cases hlt2:k < j
     ·have h1:wr.cell? ⟨b,o+j,none⟩=some (.int .i64 y):=by rw [bi.out];exact (HW.out.cell ay).trans (HX.out j hlt)
      have bj:k < n:=by omega
      have h2:=(HW.out.cell ay).trans (HX.out k bj)
      have az:=fI src k (by have:=HN.out;omega)
      have ax:=h! (eS src k _ az)
      have bf:Hid (src.getD k 0 ∈ src.take j):=h! (by
       rw [bJ];exact ⟨k,by rw [aW,if_pos hlt2];exact az⟩)
      clear az
      generalize src.getD k 0=z at *
      cases hzy:(z == y)
      ·have HZ:=h! hzy
       go_upto_region 11 with (fail)
       go_quiet (fail)
       go_wp2
       go_roundw
       case rel=>exact ⟨k+1,hlt2,by go_num,by rw [ax.out];have h3:=HZ.out;have h4:=bc.out;simp at h3;simp [h4];exact fun e=>h3 e.symm,eT HW.out _,B2.out.drewN _,B3.out.drewN _⟩
       simp [intOf];omega
      have HZ:=h! hzy
      go_upto_region 11 with (fail)
      go_quiet (fail)
      go_wp2
      go_ret
      refine ⟨?_,eT HW.out _⟩
      have h3:z=y:=by simpa using HZ.out
      have h4:¬ src.Nodup:=fun hnd=>by
       have h5:(src.take (j+1)).Nodup:=List.Nodup.sublist (List.take_sublist _ _) hnd
       rw [ao.out,bW] at h5
       exact h5.2.2 z bf.out y (by simp) h3
      rw [HR.out,decide_eq_false h4,Bool.and_false]
      rfl
     obtain rfl:k=j:=by omega
     go_wp2
     go_roundw
     case rel=>exact ⟨k+1,hlt,by go_num,by rw [ao.out,dF,aa.out];simp [HY.out],by rw [ao.out,bW];exact ⟨ba.out,by simp,fun x hx y2 hy2 e=>by simp at hy2;subst hy2;subst e;exact bc.out hx⟩,HW.out,B2.out,B3.out⟩
     simp [intOf];omega
    have HY:Hid (numB nb y=false):=h! (by unfold numB;simp at hy1 hy2 ⊢;omega)
    go_upto_region 6 with (fail)
    go_quiet (fail)
    go_wp2
    go_ret
    exact ⟨by rw [HR.out,show src.all (numB nb)=false by (rw [cE];exact ⟨y,HM.out,by rw [HY.out];simp⟩)];rfl,eT HW.out _⟩
   have HY:Hid (numB nb y=false):=h! (by unfold numB;simp at hy1 ⊢;omega)
   go_upto_region 6 with (fail)
   go_quiet (fail)
   go_wp2
   go_ret
   exact ⟨by rw [HR.out,show src.all (numB nb)=false by (rw [cE];exact ⟨y,HM.out,by rw [HY.out];simp⟩)];rfl,eT HW.out _⟩
  obtain rfl:j=n:=by omega
  rw [aJ (by have:=HN.out;omega)] at aa ba
  go_wp2
  go_ret
  exact ⟨by rw [HR.out,aa.out,decide_eq_true ba.out];rfl,HW.out⟩
theorem aFJ {w:World} {ap ab:Option Addr} {np cp nb cb:Nat} {ar ce:Int} {x:PhiD} {af av:Option Addr} {cf cv:Nat} (hs:Ints w (.slice af x.src.length cf) x.src) :
  Calls Tryz.prog 124 #[.agg #[.slice ap np cp,.int .i64 ar,.int .i64 ce,.slice ab nb cb],.agg (phiA x af av cf cv)] w fun e w'=>e = .returned (.bool (iQ nb x))/\Below w.heap.size w w':=by
 cases hg:((x.typ == 1 || x.typ == 2) && (x.src.length == x.vals.length))
 ·have aa:iQ nb x=false:=by unfold iQ;rw [hg];rfl
  rw [aa]
  exact zY (fv:=#[.nilIface,.nilIface,.nilIface,.nilIface]) rfl hg
 ·have aa:iQ nb x=(x.src.all (numB nb) && decide x.src.Nodup):=by unfold iQ;rw [hg];rfl
  rw [aa]
  simp only [aK,cH,beq_iff_eq] at hg
  unfold phiA
  rw [<-hg.2]
  rcases hg.1 with h | h
  ·rw [h];exact aD2 rfl hs
  rw [h];exact aD3 rfl hs
end Go.Proofs.YtagabiidbbhhmaaGreat
