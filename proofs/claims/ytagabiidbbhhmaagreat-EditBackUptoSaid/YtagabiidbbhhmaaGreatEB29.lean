/- Part 29. -/
import Derived.WalkSmall
import Derived.Test.YtagabiidbbhhmaaGreatEB28
import Derived.Lib.SliceRun
namespace Go.Proofs.YtagabiidbbhhmaaGreat
set_option maxHeartbeats 3200000
set_option linter.all false
open Go.RowKit
theorem oL {α : Type} {xs ys:List α} {i:Nat} {x y : α} (h:xs.take i=ys.take i) (hx:xs[i]? = some x) (hy:ys[i]? = some y):xs.take (i+1)=ys.take (i+1) ↔ x=y:=by
 rw [eP xs i x hx,eP ys i y hy,h]
 simp
theorem qE {α : Type} {xs ys:List α} {n:Nat} (h:xs.take n=ys.take n) (hx:xs.length=n) (hy:ys.length=n):xs=ys:=by
 rw [aH (by omega),aH (by omega)] at h;exact h
theorem qF {α : Type} {xs ys:List α} {i:Nat} {x y : α} (h:xs=ys) (hx:xs[i]? = some x) (hy:ys[i]? = some y):x=y:=by
 rw [h,hy] at hx;exact (Option.some.inj hx).symm
theorem qG:Enters Tryz.prog 131:=enters_of Tryz.func131 (by kernel_rfl) rfl
theorem aFJ {w:World} {v v' : Value} {xs ys:List PhiD} (hv:eT PhiR 4 w v xs) (hv' : eT PhiR 4 w v' ys) :
  Calls Tryz.prog 130 #[v,v',.func (.func 131) #[] #[]] w fun e w'=>e = .returned (.bool (decide (xs=ys)))/\Below w.heap.size w w':=by
 obtain ⟨a1,c1,b1,o1,rfl,hc1,hm1,hl1,ha1,hx⟩:=fH hv
 obtain ⟨a2,c2,b2,o2,rfl,hc2,hm2,hl2,ha2,hy⟩:=fH hv'
 obtain ⟨n1,hn1⟩ : ∃ n,n=xs.length:=⟨_,rfl⟩
 obtain ⟨n2,hn2⟩ : ∃ n,n=ys.length:=⟨_,rfl⟩
 rw [<-hn1] at hc1 hl1 ha1 ⊢
 rw [<-hn2] at hc2 hl2 ha2 ⊢
 have G1:=h! hn1
 have G2:=h! hn2
 have HA1:=h! ha1
 have HA2:=h! ha2
 have HX:=h! hx
 have HY:=h! hy
 have HW:=h! (Below.refl w.heap.size w)
 obtain ⟨r,hr⟩ : ∃ r,r=decide (xs=ys):=⟨_,rfl⟩
 rw [<-hr]
 have HR:=h! hr
 clear hv hv' hn1 hn2 ha1 ha2 hx hy hr
 have eg1:∀ (args:Array Value) (w:World),(callFunc 131 args).run Tryz.prog w = .ok (.enter 131 args) w:=qG
 by_cases hnn:n1=n2
 rotate_left
 ·have hne:((n1:Int) != (n2:Int))=true:=by simp;omega
  have HRF:Hid (r=false):=h! (by rw [HR.out,decide_eq_false_iff_not];intro h;have h1:=G1.out;have h2:=G2.out;rw [h] at h1;omega)
  go_enter Tryz.func130,Tryz.ntmps130
  go_wp2
  go_ret
  exact ⟨by rw [HRF.out];rfl,HW.out⟩
 have HNN:=h! hnn
 subst hnn
 have hne:((n1:Int) != (n1:Int))=false:=by simp
 go_enter Tryz.func130,Tryz.ntmps130
 go_wp2_with fail
 clear hne
 go_loopw [17] (fun i wr => ∃ j:Nat,j <= n1/\i = .int .i64 j/\xs.take j=ys.take j/\Below w.heap.size w wr) (fun i _=>n1 - (intOf i).toNat)
 case atStart=>exact ⟨0,aJ _,rfl,rfl,HW.out⟩
 case round =>
  obtain ⟨j,hj,rfl,hs,hW⟩:=hrel
  have HS:=h! hs
  replace HW:=h! hW
  clear hs hW
  generalize wr=w3 at *
  by_cases hlt:j < n1
  ·obtain ⟨rfl,hb1⟩:=HA1.out (by omega)
   obtain ⟨rfl,hb2⟩:=HA2.out (by omega)
   obtain ⟨p,hp⟩ : ∃ p,xs[j]? = some p:=⟨_,aC (by have:=G1.out;omega)⟩
   obtain ⟨q,hq⟩ : ∃ q,ys[j]? = some q:=⟨_,aC (by have:=G2.out;omega)⟩
   obtain ⟨af,av,cf,cv,hP⟩:=HX.out j p hp
   obtain ⟨df,dv,ef,ev,hQ⟩:=HY.out j q hq
   have HP:=h! hP
   have HQ:=h! hQ
   have HPX:=h! hp
   have HQX:=h! hq
   obtain ⟨m0,m1,m2,m3, -, -, -, -⟩:=hP.below HW.out hb1
   clear hp hq hP hQ
   go_upto_region 6 with (fail)
   clear m0 m1 m2 m3
   have HB5:Hid (Below w3.heap.size w3 (w3.alloc (.cells #[.int .i64 p.id,.int .i64 p.typ,.slice af p.src.length cf,.slice av p.vals.length cv] 78))):=h! ((Below.refl _ _).alloc (aA _) _)
   have B5:=h! (Box.new w3 #[.int .i64 p.id,.int .i64 p.typ,.slice af p.src.length cf,.slice av p.vals.length cv] 78)
   obtain ⟨b5,hb5⟩ : ∃ b5,b5=w3.heap.size:=⟨_,rfl⟩
   rw [<-hb5] at B5 ⊢
   generalize w3.alloc (.cells #[.int .i64 p.id,.int .i64 p.typ,.slice af p.src.length cf,.slice av p.vals.length cv] 78)=w5 at *
   clear hb5
   replace HW:=h! (HW.out.trans (HB5.out.mono HW.out.size))
   clear HB5
   obtain ⟨m0,m1,m2,m3, -, -, -, -⟩:=HQ.out.below HW.out hb2
   go_upto_region 7 with (fail)
   clear m0 m1 m2 m3
   have HB6:Hid (Below w5.heap.size w5 (w5.alloc (.cells #[.int .i64 q.id,.int .i64 q.typ,.slice df q.src.length ef,.slice dv q.vals.length ev] 78))):=h! ((Below.refl _ _).alloc (aA _) _)
   have B6:=h! (Box.new w5 #[.int .i64 q.id,.int .i64 q.typ,.slice df q.src.length ef,.slice dv q.vals.length ev] 78)
   obtain ⟨b6,hb6⟩ : ∃ b6,b6=w5.heap.size:=⟨_,rfl⟩
   rw [<-hb6] at B6 ⊢
   generalize w5.alloc (.cells #[.int .i64 q.id,.int .i64 q.typ,.slice df q.src.length ef,.slice dv q.vals.length ev] 78)=w6 at *
   clear hb6
   replace HW:=h! (HW.out.trans (HB6.out.mono HW.out.size))
   replace B5:=h! (B5.out.later HB6.out)
   clear HB6
   obtain ⟨c,hc⟩ : ∃ c,c=decide (p=q):=⟨_,rfl⟩
   have HC:=h! hc
   have HCT:Hid (Calls Tryz.prog 131 #[.agg #[.int .i64 p.id,.int .i64 p.typ,.slice af p.src.length cf,.slice av p.vals.length cv],.agg #[.int .i64 q.id,.int .i64 q.typ,.slice df q.src.length ef,.slice dv q.vals.length ev]] w6 fun e w'=>e = .returned (.bool c)/\Below w6.heap.size w6 w'):=h! (by rw [hc];exact (aEN ⟨_,_,rfl,(HP.out.below HW.out hb1).src,(HP.out.below HW.out hb1).vals⟩ ⟨_,_,rfl,(HQ.out.below HW.out hb2).src,(HQ.out.below HW.out hb2).vals⟩))
   clear hc
   obtain ⟨l5,k5,f5⟩:=B5.out
   obtain ⟨l6,k6,f6⟩:=B6.out
   cases c
   ·go_wp2_with (go_at_fn 131;refine HCT.out.mono ?_;rintro e w7 ⟨rfl,hb7⟩;have HB7:=h! hb7;clear hb7)
    have HRF:Hid (r=false):=h! (by rw [HR.out,decide_eq_false_iff_not];intro h;have h1:=HC.out;rw [qF h HPX.out HQX.out] at h1;simp at h1)
    go_ret
    exact ⟨by rw [HRF.out];rfl,HW.out.trans (HB7.out.mono HW.out.size)⟩
   go_wp2_with (go_at_fn 131;refine HCT.out.mono ?_;rintro e w7 ⟨rfl,hb7⟩;have HB7:=h! hb7;clear hb7)
   have HS2:Hid (xs.take (j+1)=ys.take (j+1)):=h! ((oL HS.out HPX.out HQX.out).2 (by have h1:=HC.out;simpa using h1.symm))
   have HW4:=h! (HW.out.trans (HB7.out.mono HW.out.size))
   go_roundw
   case rel=>exact ⟨j+1,hlt,by go_num,HS2.out,HW4.out⟩
   simp [intOf];omega
  have HRT:Hid (r=true):=h! (by rw [HR.out,decide_eq_true_eq];have h9:=HS.out;obtain rfl:j=n1:=(by omega);exact qE h9 G1.out.symm G2.out.symm)
  go_wp2
  go_ret
  exact ⟨by rw [HRT.out];rfl,HW.out⟩
theorem oM:Enters Tryz.prog 133:=enters_of Tryz.func133 (by kernel_rfl) rfl
theorem aFK {w:World} {v v' : Value} {xs ys:List InstrD} (hv:eT gY 4 w v xs) (hv' : eT gY 4 w v' ys) :
  Calls Tryz.prog 132 #[v,v',.func (.func 133) #[] #[]] w fun e w'=>e = .returned (.bool (decide (xs=ys)))/\Below w.heap.size w w':=by
 obtain ⟨a1,c1,b1,o1,rfl,hc1,hm1,hl1,ha1,hx⟩:=fS hv
 obtain ⟨a2,c2,b2,o2,rfl,hc2,hm2,hl2,ha2,hy⟩:=fS hv'
 obtain ⟨n1,hn1⟩ : ∃ n,n=xs.length:=⟨_,rfl⟩
 obtain ⟨n2,hn2⟩ : ∃ n,n=ys.length:=⟨_,rfl⟩
 rw [<-hn1] at hc1 hl1 ha1 ⊢
 rw [<-hn2] at hc2 hl2 ha2 ⊢
 have G1:=h! hn1
 have G2:=h! hn2
 have HA1:=h! ha1
 have HA2:=h! ha2
 have HX:=h! hx
 have HY:=h! hy
 have HW:=h! (Below.refl w.heap.size w)
 obtain ⟨r,hr⟩ : ∃ r,r=decide (xs=ys):=⟨_,rfl⟩
 rw [<-hr]
 have HR:=h! hr
 clear hv hv' hn1 hn2 ha1 ha2 hx hy hr
 have eg1:∀ (args:Array Value) (w:World),(callFunc 133 args).run Tryz.prog w = .ok (.enter 133 args) w:=oM
 by_cases hnn:n1=n2
 rotate_left
 ·have hne:((n1:Int) != (n2:Int))=true:=by simp;omega
  have HRF:Hid (r=false):=h! (by rw [HR.out,decide_eq_false_iff_not];intro h;have h1:=G1.out;have h2:=G2.out;rw [h] at h1;omega)
  go_enter Tryz.func132,Tryz.ntmps132
  go_wp2
  go_ret
  exact ⟨by rw [HRF.out];rfl,HW.out⟩
 have HNN:=h! hnn
 subst hnn
 have hne:((n1:Int) != (n1:Int))=false:=by simp
 go_enter Tryz.func132,Tryz.ntmps132
 go_wp2_with fail
 clear hne
 go_loopw [17] (fun i wr => ∃ j:Nat,j <= n1/\i = .int .i64 j/\xs.take j=ys.take j/\Below w.heap.size w wr) (fun i _=>n1 - (intOf i).toNat)
 case atStart=>exact ⟨0,aJ _,rfl,rfl,HW.out⟩
 case round =>
  obtain ⟨j,hj,rfl,hs,hW⟩:=hrel
  have HS:=h! hs
  replace HW:=h! hW
  clear hs hW
  generalize wr=w3 at *
  by_cases hlt:j < n1
  ·obtain ⟨rfl,hb1⟩:=HA1.out (by omega)
   obtain ⟨rfl,hb2⟩:=HA2.out (by omega)
   obtain ⟨p,hp⟩ : ∃ p,xs[j]? = some p:=⟨_,aC (by have:=G1.out;omega)⟩
   obtain ⟨q,hq⟩ : ∃ q,ys[j]? = some q:=⟨_,aC (by have:=G2.out;omega)⟩
   obtain ⟨af,cf,hP⟩:=HX.out j p hp
   obtain ⟨df,ef,hQ⟩:=HY.out j q hq
   have HP:=h! hP
   have HQ:=h! hQ
   have HPX:=h! hp
   have HQX:=h! hq
   obtain ⟨m0,m1,m2,m3, -, -, -, -⟩:=hP.below HW.out hb1
   clear hp hq hP hQ
   go_upto_region 6 with (fail)
   clear m0 m1 m2 m3
   have HB5:Hid (Below w3.heap.size w3 (w3.alloc (.cells #[.int .i64 p.op,.int .i64 p.id,.slice af p.args.length cf,.int .i64 p.n] 82))):=h! ((Below.refl _ _).alloc (aA _) _)
   have B5:=h! (Box.new w3 #[.int .i64 p.op,.int .i64 p.id,.slice af p.args.length cf,.int .i64 p.n] 82)
   obtain ⟨b5,hb5⟩ : ∃ b5,b5=w3.heap.size:=⟨_,rfl⟩
   rw [<-hb5] at B5 ⊢
   generalize w3.alloc (.cells #[.int .i64 p.op,.int .i64 p.id,.slice af p.args.length cf,.int .i64 p.n] 82)=w5 at *
   clear hb5
   replace HW:=h! (HW.out.trans (HB5.out.mono HW.out.size))
   clear HB5
   obtain ⟨m0,m1,m2,m3, -, -, -, -⟩:=HQ.out.below HW.out hb2
   go_upto_region 7 with (fail)
   clear m0 m1 m2 m3
   have HB6:Hid (Below w5.heap.size w5 (w5.alloc (.cells #[.int .i64 q.op,.int .i64 q.id,.slice df q.args.length ef,.int .i64 q.n] 82))):=h! ((Below.refl _ _).alloc (aA _) _)
   have B6:=h! (Box.new w5 #[.int .i64 q.op,.int .i64 q.id,.slice df q.args.length ef,.int .i64 q.n] 82)
   obtain ⟨b6,hb6⟩ : ∃ b6,b6=w5.heap.size:=⟨_,rfl⟩
   rw [<-hb6] at B6 ⊢
   generalize w5.alloc (.cells #[.int .i64 q.op,.int .i64 q.id,.slice df q.args.length ef,.int .i64 q.n] 82)=w6 at *
   clear hb6
   replace HW:=h! (HW.out.trans (HB6.out.mono HW.out.size))
   replace B5:=h! (B5.out.later HB6.out)
   clear HB6
   obtain ⟨c,hc⟩ : ∃ c,c=decide (p=q):=⟨_,rfl⟩
   have HC:=h! hc
   have HCT:Hid (Calls Tryz.prog 133 #[.agg #[.int .i64 p.op,.int .i64 p.id,.slice af p.args.length cf,.int .i64 p.n],.agg #[.int .i64 q.op,.int .i64 q.id,.slice df q.args.length ef,.int .i64 q.n]] w6 fun e w'=>e = .returned (.bool c)/\Below w6.heap.size w6 w'):=h! (by rw [hc];exact (aAU ⟨_,rfl,(HP.out.below HW.out hb1).args⟩ ⟨_,rfl,(HQ.out.below HW.out hb2).args⟩))
   clear hc
   obtain ⟨l5,k5,f5⟩:=B5.out
   obtain ⟨l6,k6,f6⟩:=B6.out
   cases c
   ·go_wp2_with (go_at_fn 133;refine HCT.out.mono ?_;rintro e w7 ⟨rfl,hb7⟩;have HB7:=h! hb7;clear hb7)
    have HRF:Hid (r=false):=h! (by rw [HR.out,decide_eq_false_iff_not];intro h;have h1:=HC.out;rw [qF h HPX.out HQX.out] at h1;simp at h1)
    go_ret
    exact ⟨by rw [HRF.out];rfl,HW.out.trans (HB7.out.mono HW.out.size)⟩
   go_wp2_with (go_at_fn 133;refine HCT.out.mono ?_;rintro e w7 ⟨rfl,hb7⟩;have HB7:=h! hb7;clear hb7)
   have HS2:Hid (xs.take (j+1)=ys.take (j+1)):=h! ((oL HS.out HPX.out HQX.out).2 (by have h1:=HC.out;simpa using h1.symm))
   have HW4:=h! (HW.out.trans (HB7.out.mono HW.out.size))
   go_roundw
   case rel=>exact ⟨j+1,hlt,by go_num,HS2.out,HW4.out⟩
   simp [intOf];omega
  have HRT:Hid (r=true):=h! (by rw [HR.out,decide_eq_true_eq];have h9:=HS.out;obtain rfl:j=n1:=(by omega);exact qE h9 G1.out.symm G2.out.symm)
  go_wp2
  go_ret
  exact ⟨by rw [HRT.out];rfl,HW.out⟩
def eV (W:World) (S:Foot) (v:Value) (xs:List Int):Prop:=ORow W S 3 1 v xs.length (xs.map (.int .i64)) /\ ∀ x ∈ xs,In64 x
theorem eV.ints {W:World} {S:Foot} {v:Value} {xs:List Int} (h:eV W S v xs):Ints W v xs:=⟨h.1.row,h.2⟩
theorem eV.keep {W W' : World} {S:Foot} {v:Value} {xs:List Int} (h:eV W S v xs) (hk:∀ k,S k -> W'.heap[k]? = W.heap[k]?):eV W' S v xs:=⟨h.1.keep hk,h.2⟩
theorem eV.wide {W:World} {S S' : Foot} {v:Value} {xs:List Int} (h:eV W S v xs) (hs:∀ k,S k -> S' k) (hl:∀ k,S' k -> k < W.heap.size):eV W S' v xs:=⟨h.1.wide hs hl,h.2⟩
theorem eV.lt {W:World} {S:Foot} {v:Value} {xs:List Int} (h:eV W S v xs):∀ k,S k -> k < W.heap.size:=h.1.lt
theorem eV.off {W W' : World} {S D:Foot} {v:Value} {xs:List Int} (h:eV W S v xs) (ho:Off D W W') (hn:S.off D):eV W' S v xs:=⟨h.1.off ho hn,h.2⟩
theorem eV.set {W:World} {S:Foot} {v:Value} {xs:List Int} (h:eV W S v xs) {g cap:Nat} (hv:v = .slice (some ⟨g,0,none⟩) xs.length cap) {i:Nat} (hi:i < xs.length) {y:Int} (hy:In64 y):eV (W.setCell ⟨g,i,none⟩ (.int .i64 y)) S v (xs.set i y):=by
 refine ⟨by rw [cE,List.map_set];exact h.1.set hv (by omega) i _,fun z hz => ?_⟩
 rcases List.mem_or_eq_of_mem_set hz with h1 | h1
 ·exact h.2 z h1
 rw [h1];exact hy
theorem eV.nil {W:World} (a:Option Addr):eV W Foot.none (.slice a 0 0) []:=⟨ORow.nil a,by simp⟩
structure OPhi (W:World) (S:Foot) (cs:List Value) (p:PhiD):Prop where
 ex:∃ v u S1 S2,cs=[.int .i64 p.id,.int .i64 p.typ,v,u]/\eV W S1 v p.src/\eV W S2 u p.vals/\S1.off S2/\(∀ k,S1 k -> S k) /\ ∀ k,S2 k -> S k
 lt:∀ k,S k -> k < W.heap.size
 id:In64 p.id
 typ:In64 p.typ
structure OInstr (W:World) (S:Foot) (cs:List Value) (x:InstrD):Prop where
 ex:∃ v,cs=[.int .i64 x.op,.int .i64 x.id,v,.int .i64 x.n]/\eV W S v x.args
 op:In64 x.op
 id:In64 x.id
 n:In64 x.n
structure OTerm (W:World) (S:Foot) (cs:List Value) (t:TermD):Prop where
 ex:∃ v,cs=[.int .i64 t.op,.int .i64 t.val,v,.int .i64 t.n]/\eV W S v t.to
 op:In64 t.op
 val:In64 t.val
 n:In64 t.n
theorem OPhi.nice:Nice OPhi where
 keep:=fun h hk=>by
  obtain ⟨⟨v,u,S1,S2,e,h1,h2,h3,h4,h5⟩,hl,a,b⟩:=h
  refine ⟨⟨v,u,S1,S2,e,h1.keep fun k hk1=>hk k (h4 k hk1),h2.keep fun k hk1=>hk k (h5 k hk1),h3,h4,h5⟩,fun k hs => ?_,a,b⟩
  have h6:=hk k hs
  rw [aV (hl k hs)] at h6
  exact (aL.1 h6).1
 lt:=fun h=>h.lt
 wide:=fun h hs hl=>by
  obtain ⟨⟨v,u,S1,S2,e,h1,h2,h3,h4,h5⟩,_,a,b⟩:=h
  exact ⟨⟨v,u,S1,S2,e,h1,h2,h3,fun k hk=>hs k (h4 k hk),fun k hk=>hs k (h5 k hk)⟩,hl,a,b⟩
theorem OInstr.nice:Nice OInstr where
 keep:=fun ⟨⟨v,e,h⟩,a,b,c⟩ hk=>⟨⟨v,e,h.keep hk⟩,a,b,c⟩
 lt:=fun ⟨⟨v,e,h⟩,a,b,c⟩=>h.lt
 wide:=fun ⟨⟨v,e,h⟩,a,b,c⟩ hs hl=>⟨⟨v,e,h.wide hs hl⟩,a,b,c⟩
theorem OTerm.nice:Nice OTerm where
 keep:=fun ⟨⟨v,e,h⟩,a,b,c⟩ hk=>⟨⟨v,e,h.keep hk⟩,a,b,c⟩
 lt:=fun ⟨⟨v,e,h⟩,a,b,c⟩=>h.lt
 wide:=fun ⟨⟨v,e,h⟩,a,b,c⟩ hs hl=>⟨⟨v,e,h.wide hs hl⟩,a,b,c⟩
abbrev gI:=OSl OPhi 78 4
abbrev iN:=OSl OInstr 82 4
structure OBlock (W:World) (S:Foot) (cs:List Value) (b:BlockD):Prop where
 ex:∃ v u t S1 S2 S3,cs=v :: u :: t/\gI W S1 v b.phis/\iN W S2 u b.code/\OTerm W S3 t b.term/\S1.off S2/\S1.off S3/\S2.off S3/\(∀ k,S1 k -> S k)/\(∀ k,S2 k -> S k) /\ ∀ k,S3 k -> S k
 lt:∀ k,S k -> k < W.heap.size
theorem OBlock.nice:Nice OBlock where
 keep:=fun h hk=>by
  obtain ⟨⟨v,u,t,S1,S2,S3,e,h1,h2,h3,h4,h5,h6,h7,h8,h9⟩,hl⟩:=h
  refine ⟨⟨v,u,t,S1,S2,S3,e,h1.keep OPhi.nice fun k hk1=>hk k (h7 k hk1),h2.keep OInstr.nice fun k hk1=>hk k (h8 k hk1),OTerm.nice.keep h3 fun k hk1=>hk k (h9 k hk1),h4,h5,h6,h7,h8,h9⟩,fun k hs => ?_⟩
  have h6:=hk k hs
  rw [aV (hl k hs)] at h6
  exact (aL.1 h6).1
 lt:=fun h=>h.lt
 wide:=fun h hs hl=>by
  obtain ⟨⟨v,u,t,S1,S2,S3,e,h1,h2,h3,h4,h5,h6,h7,h8,h9⟩,_⟩:=h
  exact ⟨⟨v,u,t,S1,S2,S3,e,h1,h2,h3,h4,h5,h6,fun k hk=>hs k (h7 k hk),fun k hk=>hs k (h8 k hk),fun k hk=>hs k (h9 k hk)⟩,hl⟩
abbrev eX:=OSl OBlock 63 6
structure OFunc (W:World) (S:Foot) (v:Value) (f:FuncD):Prop where
 ex:∃ a b S1 S2,v = .agg #[a,.int .i64 f.arrays,.int .i64 f.cells,b]/\eV W S1 a f.params/\eX W S2 b f.blocks/\S1.off S2/\(∀ k,S1 k -> S k) /\ ∀ k,S2 k -> S k
 lt:∀ k,S k -> k < W.heap.size
 arrays:In64 f.arrays
 cells:In64 f.cells
theorem OFunc.keep {W W' : World} {S:Foot} {v:Value} {f:FuncD} (h:OFunc W S v f) (hk:∀ k,S k -> W'.heap[k]? = W.heap[k]?):OFunc W' S v f:=by
 obtain ⟨⟨a,b,S1,S2,e,h1,h2,h3,h4,h5⟩,hl,x,y⟩:=h
 refine ⟨⟨a,b,S1,S2,e,h1.keep fun k hk1=>hk k (h4 k hk1),h2.keep OBlock.nice fun k hk1=>hk k (h5 k hk1),h3,h4,h5⟩,fun k hs => ?_,x,y⟩
 have h6:=hk k hs
 rw [aV (hl k hs)] at h6
 exact (aL.1 h6).1
theorem OFunc.off {W W' : World} {S D:Foot} {v:Value} {f:FuncD} (h:OFunc W S v f) (ho:Off D W W') (hn:S.off D):OFunc W' S v f:=h.keep fun k hk=>ho.block k (h.lt k hk) (hn k hk)
theorem OFunc.below {W W' : World} {S:Foot} {v:Value} {f:FuncD} (h:OFunc W S v f) (hb:Below W.heap.size W W'):OFunc W' S v f:=h.off (.of_below hb Foot.none) fun k _ hk=>hk
theorem OFunc.wide {W:World} {S S' : Foot} {v:Value} {f:FuncD} (h:OFunc W S v f) (hs:∀ k,S k -> S' k) (hl:∀ k,S' k -> k < W.heap.size):OFunc W S' v f:=by
 obtain ⟨⟨a,b,S1,S2,e,h1,h2,h3,h4,h5⟩,_,x,y⟩:=h
 exact ⟨⟨a,b,S1,S2,e,h1,h2,h3,fun k hk=>hs k (h4 k hk),fun k hk=>hs k (h5 k hk)⟩,hl,x,y⟩
theorem OPhi.reads {W:World} {S:Foot} {cs:List Value} {p:PhiD} (h:OPhi W S cs p):PhiR W cs p:=by
 obtain ⟨⟨v,u,S1,S2,e,h1,h2,_⟩,_,a,b⟩:=h
 exact ⟨v,u,e,h1.ints,h2.ints,a,b⟩
theorem OInstr.reads {W:World} {S:Foot} {cs:List Value} {x:InstrD} (h:OInstr W S cs x):gY W cs x:=by
 obtain ⟨⟨v,e,h⟩,a,b,c⟩:=h
 exact ⟨v,e,h.ints,a,b,c⟩
theorem OTerm.reads {W:World} {S:Foot} {cs:List Value} {t:TermD} (h:OTerm W S cs t):vM W cs t:=by
 obtain ⟨⟨v,e,h⟩,a,b,c⟩:=h
 exact ⟨v,e,h.ints,a,b,c⟩
theorem OBlock.reads {W:World} {S:Foot} {cs:List Value} {b:BlockD} (h:OBlock W S cs b):gD W cs b:=by
 obtain ⟨⟨v,u,t,S1,S2,S3,e,h1,h2,h3,_⟩,_⟩:=h
 exact ⟨v,u,t,e,h1.reads fun _ _ _ h=>h.reads,h2.reads fun _ _ _ h=>h.reads,h3.reads⟩
theorem OFunc.reads {W:World} {S:Foot} {v:Value} {f:FuncD} (h:OFunc W S v f):fJ W v f:=by
 obtain ⟨⟨a,b,S1,S2,e,h1,h2,_⟩,_,x,y⟩:=h
 exact ⟨a,b,e,h1.ints,x,y,h2.reads fun _ _ _ h=>h.reads⟩
theorem aB4 {P:Program} {w:World} {t ty e:TypeId} {z:Value} {size bytes:Nat} (he:Elem P t e z size bytes) {v xv:Value} {n m:Nat} {cs news:List Value} {G:Foot} (h:ORow w G e size v n cs) (hr:Row w xv m size news)
  (h1:∀ u ∈ news,u.oneCell' = true) (hbig:n+m <= 17592186044416) (hbytes:(n+m) * bytes <= 140737488355328) :
  ∃ v' w' G',(Builtin.append_ #[t,t] ty #[v,xv]).run P w = .ok v' w' /\ ORow w' G' e size v' (n+m) (cs ++ news)/\(∀ k,G' k -> G k \/ w.heap.size <= k)/\Off G w w' /\
   (∀ g j,v.ownBlock=some g -> j < n * size -> w'.cell? ⟨g,j,none⟩=w.cell? ⟨g,j,none⟩):=by
 have hbl:n+m <= maxLen:=by unfold maxLen;omega
 have fin:∀ (base:Nat) (v' : Value) (w' : World),w'.ownsRow base e size v' (n+m) (cs ++ news) -> (∀ k,v'.ownBlock=some k -> G k \/ w.heap.size <= k) -> ∃ G',ORow w' G' e size v' (n+m) (cs ++ news) /\ ∀ k,G' k -> G k \/ w.heap.size <= k:=fun base v' w' r1 r2 =>
  ⟨fun k=>v'.ownBlock=some k,ORow.of_own r1 hbig (fun k hk=>hk) (fun k hk=>(r1.lt k hk).2),r2⟩
 have hlen:=h.len
 rcases h.form with ⟨rfl,a,rfl⟩ | ⟨g,cap,cur,rfl,hg,hh,k1,k2,k3,k4⟩
 ·have hcs:cs=[]:=List.eq_nil_of_length_eq_zero (by simpa using hlen)
  subst hcs
  have hno:∀ g j,(Value.slice a 0 0).ownBlock=some g -> j < 0 * size -> w.cell? ⟨g,j,none⟩=w.cell? ⟨g,j,none⟩:=fun _ _ _ _=>rfl
  by_cases hm:m=0
  ·subst hm
   have hn:news=[]:=List.eq_nil_of_length_eq_zero (by simpa using hr.len)
   subst hn
   refine ⟨.slice a 0 0,w,Foot.none, ?_,ORow.nil a,fun k hk=>hk.elim,Off.refl _ _,fun g j _ hj=>by simp at hj⟩
   obtain ⟨ht,⟨i,hi,hz,hsz,hby⟩,hzc,hp⟩:=he
   obtain ⟨_,_,ad,cap,rfl,_,_,_,_⟩:=hr
   cases a <;> cases ad <;> simp [Builtin.append_,run_underlying ht,sizeOf,typeInfo,hi,Builtin.lenOf,Builtin.firstCells,loadCells,loadCellsFrom,storeCells]
  cases a with
  | none =>
   obtain ⟨v',w',hrun,r1,r2,r3, -, -⟩:=iQ (ty:=ty) he w.heap.size (World.ownsRow_nil w w.heap.size e size) hr h1 hbl hbytes (aA _)
   obtain ⟨G',g1,g2⟩:=fin _ v' w' r1 (fun k hk=>.inr (r1.lt k hk).1)
   exact ⟨v',w',G',hrun,g1,g2,Off.grown r2 (fun k hk=>by cases hk),fun g j _ hj=>by simp at hj⟩
  | some b =>
   obtain ⟨ht,⟨i,hi,hz,hsz,hby⟩,hzc,hp⟩:=he
   obtain ⟨hl,_,ad,cap,rfl,_,_,hnone,hc⟩:=hr
   cases ad with
   | none=>exact absurd (hnone rfl).1 hm
   | some ad =>
    obtain ⟨v',w',hrun,r1,r2⟩:=run_append_arg_grows (P:=P) w t ty e i z size bytes ht hi hz hsz hby hzc hp b 0 0 [] (by simp) (fun j u hj=>by simp at hj) ad m cap news hl (fun j u hj=>hc ad rfl j u hj) (by omega) hbl hbytes
    obtain ⟨G',g1,g2⟩:=fin _ v' w' r1 (fun k hk=>.inr (r1.lt k hk).1)
    exact ⟨v',w',G',hrun,g1,g2,Off.grown r2 (fun k hk=>by cases hk),fun g j _ hj=>by simp at hj⟩
 ·have hown:w.ownsRow 0 e size (.slice (some ⟨g,0,none⟩) n cap) n cs:=⟨hlen,.inr ⟨g,cap,cur,rfl,aJ _,hh,k1,k2,k3,k4⟩⟩
  obtain ⟨v',w',hrun,r1,r2,r3,r4, -⟩:=iQ (ty:=ty) he 0 hown hr h1 hbl hbytes (aJ _)
  obtain ⟨G',g1,g2⟩:=fin _ v' w' r1 (fun k hk=>by
   rcases r3 with e3 | e3
   ·rw [e3] at hk;cases hk;exact .inl hg
   rw [e3] at hk;cases hk;exact .inr (aA _))
  exact ⟨v',w',G',hrun,g1,g2,Off.grown r2 (fun k hk=>by cases hk;exact hg),r4⟩
theorem oN {P:Program} {w:World} {ops:Array Oper} {rest:List Oper} {o:Oper} {a:Act} {Q:Exit -> Act -> World -> Prop} (hgd:o.guard=none) (s x:Operand) (t e:TypeId)
  (ho:o.op = .call { callee:=.builtin .append,args:=#[s,x],argTypes:=#[t,t] }) {z:Value} {size bytes:Nat} (he:Elem P t e z size bytes)
  {v xv:Value} {n m:Nat} {cs news:List Value} {G:Foot} (hs:a.eval s=v) (hx:a.eval x=xv) (h:ORow w G e size v n cs) (hr:Row w xv m size news)
  (h1:∀ u ∈ news,u.oneCell' = true) (hbig:n+m <= 17592186044416) (hbytes:(n+m) * bytes <= 140737488355328)
  (hK:∀ v' w' G',ORow w' G' e size v' (n+m) (cs ++ news) -> (∀ k,G' k -> G k \/ w.heap.size <= k) -> Off G w w' -> wpList P ops Q rest (a.put o.dst v') w'):wpList P ops Q (o :: rest) a w:=by
 obtain ⟨v',w',G',hrun,r1,r2,r3, -⟩:=aB4 (ty:=o.type) he h hr h1 hbig hbytes
 refine wpList_plain hgd fun K hK' => ?_
 unfold Oper.wp execOp
 simp only [ho,resolve,invoke,builtin,Sem.run_bind,Sem.run_pure,Result.andThen_ok,List.map_toArray,cT,eC,hs,hx,hrun]
 exact hK' _ _ (hK v' w' G' r1 r2 r3)
def mK (base:Nat) (S:Foot):Prop := ∀ k,S k -> base <= k
theorem mK.off {base:Nat} {S D:Foot} (h:mK base S) (hD:∀ k,D k -> k < base):S.off D:=fun k hs hd=>by have:=h k hs;have:=hD k hd;omega
def aFL (xs:List Int) (w:World) (e:Ending) (w' : World):Prop := ∃ u S,e = .returned u/\eV w' S u xs/\mK w.heap.size S/\Below w.heap.size w w'
theorem rN {w:World} {v:Value} {xs:List Int} (hs:Ints w v xs):Calls Tryz.prog 90 #[v] w (aFL xs w):=by
 have q4:∀ (w:World) (a:Option Addr) (n c n' c' : Nat),(binOp .eql 22 (.slice a n c) (.slice none n' c')).run Tryz.prog w = .ok (.bool a.isNone) w:=fun w a n c n' c'=>Lib.run_eql_slice_nil w _ _ a n c n' c' Tryz.underlying22
 obtain ⟨a,c,b,o,rfl, -, -,ha, -⟩:=hs.parts
 have HS:=h! hs
 obtain ⟨n,hn⟩ : ∃ n,n=xs.length:=⟨_,rfl⟩
 have HN:=h! hn
 rw [<-hn] at HS ha ⊢
 have HA:=h! ha
 clear hs ha hn
 cases a with
 | none =>
  have hx:xs=[]:=by
   have h:=HA.out
   refine bY ?_
   rw [<-HN.out]
   exact Classical.byContradiction fun h2=>by have:=(h (by omega)).1;cases this
  have HX:=h! hx
  clear hx
  go_enter Tryz.func90,Tryz.ntmps90
  go_wp2
  go_ret
  exact ⟨_,Foot.none,rfl,by rw [HX.out];exact eV.nil none,fun k hk=>hk.elim,Below.refl _ _⟩
 | some ad =>
  go_enter Tryz.func90,Tryz.ntmps90
  go_wp2_with (at_builtin;refine oN rfl _ _ 22 3 rfl nJ rfl rfl (ORow.of_own (n:=0) (cs:=[]) (G:=Foot.one w.heap.size) (aAB w 3) (by omega) (fun k hk=>by cases hk;rfl) (fun k hk=>by cases hk;simp)) (HS.out.below ((Below.refl _ _).alloc (aA _) _)).1 (oO _) (by rw [bG];exact HS.out.1.big) (by rw [bG];have:=HS.out.1.big;omega) ?_;intro v2 w2 G2 r1 r2 r3;have R1:=h! r1;have R2:=h! r2;have R3:=h! r3;clear r1 r2 r3)
  go_ret
  have h1:=R1.out
  rw [bG,eF] at h1
  refine ⟨v2,G2,rfl,⟨h1,HS.out.2⟩,fun k hk => ?_,((Below.refl _ _).alloc (aA _) _).trans (R3.out.below (by simp) fun k _ hk=>by cases hk;exact aA _)⟩
  rcases R2.out k hk with h2 | h2
  ·cases h2;exact aA _
  simp at h2;omega
end Go.Proofs.YtagabiidbbhhmaaGreat
