/- Part 52. -/
import Derived.Test.YtagabiidbbhhmaaGreatEU33
import Derived.WalkSmall
namespace Go.Proofs.YtagabiidbbhhmaaGreat
set_option maxHeartbeats 3200000
set_option linter.all false
open Go.RowKit
def rP (W:World) (v:Value) (x:InstrD):Prop := ∃ u,v = .agg #[.int .i64 x.op,.int .i64 x.id,u,.int .i64 x.n]/\Ints W u x.args
theorem rP.below {W W' : World} {v:Value} {x:InstrD} (h:rP W v x) (hb:Below W.heap.size W W'):rP W' v x:=by
 obtain ⟨u,e,h2⟩:=h
 exact ⟨u,e,h2.below hb⟩
theorem aCB (p q:PhiD):decide (p=q)=((((p.id == q.id) && (p.typ == q.typ)) && decide (p.src=q.src)) && decide (p.vals=q.vals)):=by
 rcases p with ⟨a,b,c,d⟩
 rcases q with ⟨a',b',c',d'⟩
 rw [bU]
 simp [and_assoc]
theorem wV (p q:InstrD):decide (p=q)=((((p.op == q.op) && (p.id == q.id)) && (p.n == q.n)) && decide (p.args=q.args)):=by
 rcases p with ⟨a,b,c,d⟩
 rcases q with ⟨a',b',c',d'⟩
 rw [bU]
 simp only [decide_eq_true_eq,aK,beq_iff_eq,InstrD.mk.injEq]
 constructor
 ·rintro ⟨rfl,rfl,rfl,rfl⟩;simp
 rintro ⟨⟨⟨rfl,rfl⟩,rfl⟩,rfl⟩;simp
theorem aD6 {w:World} {v v' : Value} {p q:PhiD} (hp:PhiV w v p) (hq:PhiV w v' q):Calls Tryz.prog 131 #[v,v'] w fun e w'=>e = .returned (.bool (decide (p=q)))/\Below w.heap.size w w':=by
 obtain ⟨s,u,rfl,hs,hu⟩:=hp
 obtain ⟨s',u',rfl,am,ak⟩:=hq
 obtain ⟨sa,sc,rfl⟩:=hs.form
 obtain ⟨ua,uc,rfl⟩:=hu.form
 obtain ⟨al,aj,rfl⟩:=am.form
 obtain ⟨ao,an,rfl⟩:=ak.form
 have HS:=h! (And.intro hs am)
 have HU:=h! (And.intro hu ak)
 obtain ⟨r,hr⟩ : ∃ r,r=decide (p=q):=⟨_,rfl⟩
 rw [<-hr]
 rw [aCB] at hr
 have HR:=h! hr
 clear hs hu am ak hr
 go_enter Tryz.func131,Tryz.ntmps131
 go_upto_region 1 with (fail)
 have aa:=(Below.refl w.heap.size w).alloc (aC _) (.cells #[.int .i64 p.id,.int .i64 p.typ,.slice sa p.src.length sc,.slice ua p.vals.length uc] 78)
 have HW:=h! aa
 clear aa
 have B1:=h! (Box.new w #[.int .i64 p.id,.int .i64 p.typ,.slice sa p.src.length sc,.slice ua p.vals.length uc] 78)
 have ab:(w.alloc (.cells #[.int .i64 p.id,.int .i64 p.typ,.slice sa p.src.length sc,.slice ua p.vals.length uc] 78)).heap.size=w.heap.size+1:=World.size_alloc _ _
 generalize w.alloc (.cells #[.int .i64 p.id,.int .i64 p.typ,.slice sa p.src.length sc,.slice ua p.vals.length uc] 78)=ae at *
 have aa:=(Below.refl ae.heap.size ae).alloc (aC _) (.cells #[.int .i64 q.id,.int .i64 q.typ,.slice al q.src.length aj,.slice ao q.vals.length an] 78)
 replace B1:=h! (B1.out.later aa)
 replace HW:=h! (HW.out.trans (aa.mono HW.out.size))
 clear aa
 have B2:=h! (Box.new ae #[.int .i64 q.id,.int .i64 q.typ,.slice al q.src.length aj,.slice ao q.vals.length an] 78)
 rw [ab] at B2
 clear ab
 generalize ae.alloc (.cells #[.int .i64 q.id,.int .i64 q.typ,.slice al q.src.length aj,.slice ao q.vals.length an] 78)=wv at *
 obtain ⟨ah,ad,af⟩:=B1.out
 obtain ⟨ag,ac,ai⟩:=B2.out
 cases h1:(p.id == q.id)
 ·rw [h1,bF,bF,bF] at HR
  go_wp2
  go_ret
  exact ⟨by rw [HR.out];rfl,HW.out⟩
 rw [h1,bL] at HR
 cases h2:(p.typ == q.typ)
 ·rw [h2,bF,bF] at HR
  go_wp2
  go_ret
  exact ⟨by rw [HR.out];rfl,HW.out⟩
 rw [h2,bL] at HR
 go_wp2_with fail
 refine (pU (HS.out.1.below HW.out) (HS.out.2.below HW.out)).mono ?_
 rintro e w2 ⟨rfl,hb⟩
 clear ah ad af ag ac ai
 replace B1:=h! (B1.out.later hb)
 replace B2:=h! (B2.out.later hb)
 replace HW:=h! (HW.out.trans (hb.mono HW.out.size))
 clear hb
 obtain ⟨ah,ad,af⟩:=B1.out
 obtain ⟨ag,ac,ai⟩:=B2.out
 cases h3:decide (p.src=q.src)
 ·rw [h3,bF] at HR
  go_wp2
  go_ret
  exact ⟨by rw [HR.out];rfl,HW.out⟩
 rw [h3,bL] at HR
 go_wp2_with fail
 refine (pU (HU.out.1.below HW.out) (HU.out.2.below HW.out)).mono ?_
 rintro e w3 ⟨rfl,hb⟩
 clear ah ad af ag ac ai
 replace B1:=h! (B1.out.later hb)
 replace B2:=h! (B2.out.later hb)
 replace HW:=h! (HW.out.trans (hb.mono HW.out.size))
 clear hb
 obtain ⟨ah,ad,af⟩:=B1.out
 obtain ⟨ag,ac,ai⟩:=B2.out
 go_wp2
 go_ret
 exact ⟨by rw [HR.out];rfl,HW.out⟩
theorem aAC {w:World} {v v' : Value} {p q:InstrD} (hp:rP w v p) (hq:rP w v' q):Calls Tryz.prog 133 #[v,v'] w fun e w'=>e = .returned (.bool (decide (p=q)))/\Below w.heap.size w w':=by
 obtain ⟨u,rfl,hu⟩:=hp
 obtain ⟨u',rfl,ad⟩:=hq
 obtain ⟨ua,uc,rfl⟩:=hu.form
 obtain ⟨af,ae,rfl⟩:=ad.form
 have HU:=h! (And.intro hu ad)
 obtain ⟨r,hr⟩ : ∃ r,r=decide (p=q):=⟨_,rfl⟩
 rw [<-hr]
 rw [wV] at hr
 have HR:=h! hr
 clear hu ad hr
 go_enter Tryz.func133,Tryz.ntmps133
 go_upto_region 1 with (fail)
 have aa:=(Below.refl w.heap.size w).alloc (aC _) (.cells #[.int .i64 p.op,.int .i64 p.id,.slice ua p.args.length uc,.int .i64 p.n] 82)
 have HW:=h! aa
 clear aa
 have B1:=h! (Box.new w #[.int .i64 p.op,.int .i64 p.id,.slice ua p.args.length uc,.int .i64 p.n] 82)
 have ab:(w.alloc (.cells #[.int .i64 p.op,.int .i64 p.id,.slice ua p.args.length uc,.int .i64 p.n] 82)).heap.size=w.heap.size+1:=World.size_alloc _ _
 generalize w.alloc (.cells #[.int .i64 p.op,.int .i64 p.id,.slice ua p.args.length uc,.int .i64 p.n] 82)=ac at *
 have aa:=(Below.refl ac.heap.size ac).alloc (aC _) (.cells #[.int .i64 q.op,.int .i64 q.id,.slice af q.args.length ae,.int .i64 q.n] 82)
 replace B1:=h! (B1.out.later aa)
 replace HW:=h! (HW.out.trans (aa.mono HW.out.size))
 clear aa
 have B2:=h! (Box.new ac #[.int .i64 q.op,.int .i64 q.id,.slice af q.args.length ae,.int .i64 q.n] 82)
 rw [ab] at B2
 clear ab
 generalize ac.alloc (.cells #[.int .i64 q.op,.int .i64 q.id,.slice af q.args.length ae,.int .i64 q.n] 82)=wv at *
 obtain ⟨ak,ah,ai⟩:=B1.out
 obtain ⟨aj,ag,al⟩:=B2.out
 cases h1:(p.op == q.op)
 ·rw [h1,bF,bF,bF] at HR
  go_wp2
  go_ret
  exact ⟨by rw [HR.out];rfl,HW.out⟩
 rw [h1,bL] at HR
 cases h2:(p.id == q.id)
 ·rw [h2,bF,bF] at HR
  go_wp2
  go_ret
  exact ⟨by rw [HR.out];rfl,HW.out⟩
 rw [h2,bL] at HR
 cases h3:(p.n == q.n)
 ·rw [h3,bF] at HR
  go_wp2
  go_ret
  exact ⟨by rw [HR.out];rfl,HW.out⟩
 rw [h3,bL] at HR
 go_wp2_with fail
 refine (pU (HU.out.1.below HW.out) (HU.out.2.below HW.out)).mono ?_
 rintro e w3 ⟨rfl,hb⟩
 clear ak ah ai aj ag al
 replace B1:=h! (B1.out.later hb)
 replace B2:=h! (B2.out.later hb)
 replace HW:=h! (HW.out.trans (hb.mono HW.out.size))
 clear hb
 obtain ⟨ak,ah,ai⟩:=B1.out
 obtain ⟨aj,ag,al⟩:=B2.out
 go_wp2
 go_ret
 exact ⟨by rw [HR.out];rfl,HW.out⟩
theorem oR {α : Type} {xs ys:List α} {i:Nat} {x y : α} (h:xs.take i=ys.take i) (hx:xs[i]? = some x) (hy:ys[i]? = some y):xs.take (i+1)=ys.take (i+1) ↔ x=y:=by
 rw [eS xs i x hx,eS ys i y hy,h]
 simp
theorem qH {α : Type} {xs ys:List α} {n:Nat} (h:xs.take n=ys.take n) (hx:xs.length=n) (hy:ys.length=n):xs=ys:=by
 rw [aJ (by omega),aJ (by omega)] at h;exact h
theorem qI {α : Type} {xs ys:List α} {i:Nat} {x y : α} (h:xs=ys) (hx:xs[i]? = some x) (hy:ys[i]? = some y):x=y:=by
 rw [h,hy] at hx;exact (Option.some.inj hx).symm
theorem qJ:Enters Tryz.prog 131:=enters_of Tryz.func131 (by kernel_rfl) rfl
theorem aFK {w:World} {v v' : Value} {xs ys:List PhiD} (hv:eU PhiR 4 w v xs) (hv' : eU PhiR 4 w v' ys) :
  Calls Tryz.prog 130 #[v,v',.func (.func 131) #[] #[]] w fun e w'=>e = .returned (.bool (decide (xs=ys)))/\Below w.heap.size w w':=by
 obtain ⟨a1,c1,b1,o1,rfl,ar,hm1,aq,ab,hx⟩:=fH hv
 obtain ⟨a2,c2,b2,o2,rfl,az,hm2,aw,ad,hy⟩:=fH hv'
 obtain ⟨n1,ae⟩ : ∃ n,n=xs.length:=⟨_,rfl⟩
 obtain ⟨n2,ac⟩ : ∃ n,n=ys.length:=⟨_,rfl⟩
 rw [<-ae] at ar aq ab ⊢
 rw [<-ac] at az aw ad ⊢
 have G1:=h! ae
 have G2:=h! ac
 have ax:=h! ab
 have ba:=h! ad
 have HX:=h! hx
 have HY:=h! hy
 have HW:=h! (Below.refl w.heap.size w)
 obtain ⟨r,hr⟩ : ∃ r,r=decide (xs=ys):=⟨_,rfl⟩
 rw [<-hr]
 have HR:=h! hr
 clear hv hv' ae ac ab ad hx hy hr
 have eg1:∀ (args:Array Value) (w:World),(callFunc 131 args).run Tryz.prog w = .ok (.enter 131 args) w:=qJ
 by_cases hnn:n1=n2
 rotate_left
 ·have ao:((n1:Int) != (n2:Int))=true:=by simp;omega
  have ah:Hid (r=false):=h! (by rw [HR.out,decide_eq_false_iff_not];intro h;have h1:=G1.out;have h2:=G2.out;rw [h] at h1;omega)
  go_enter Tryz.func130,Tryz.ntmps130
  go_wp2
  go_ret
  exact ⟨by rw [ah.out];rfl,HW.out⟩
 have HNN:=h! hnn
 subst hnn
 have ao:((n1:Int) != (n1:Int))=false:=by simp
 go_enter Tryz.func130,Tryz.ntmps130
 go_wp2_with fail
 clear ao
 go_loopw [17] (fun i wr => ∃ j:Nat,j <= n1/\i = .int .i64 j/\xs.take j=ys.take j/\Below w.heap.size w wr) (fun i _=>n1 - (intOf i).toNat)
 case atStart=>exact ⟨0,aH _,rfl,rfl,HW.out⟩
 case round =>
  obtain ⟨j,hj,rfl,hs,hW⟩:=hrel
  have HS:=h! hs
  replace HW:=h! hW
  clear hs hW
  generalize wr=w3 at *
  by_cases hlt:j < n1
  ·obtain ⟨rfl,aa⟩:=ax.out (by omega)
   obtain ⟨rfl,ai⟩:=ba.out (by omega)
   obtain ⟨p,hp⟩ : ∃ p,xs[j]? = some p:=⟨_,aB (by have:=G1.out;omega)⟩
   obtain ⟨q,hq⟩ : ∃ q,ys[j]? = some q:=⟨_,aB (by have:=G2.out;omega)⟩
   obtain ⟨af,av,cf,cv,hP⟩:=HX.out j p hp
   obtain ⟨df,dv,ef,ev,hQ⟩:=HY.out j q hq
   have HP:=h! hP
   have HQ:=h! hQ
   have ak:=h! hp
   have al:=h! hq
   obtain ⟨m0,m1,m2,m3, -, -, -, -⟩:=hP.below HW.out aa
   clear hp hq hP hQ
   go_upto_region 6 with (fail)
   clear m0 m1 m2 m3
   have aj:Hid (Below w3.heap.size w3 (w3.alloc (.cells #[.int .i64 p.id,.int .i64 p.typ,.slice af p.src.length cf,.slice av p.vals.length cv] 78))):=h! ((Below.refl _ _).alloc (aC _) _)
   have B5:=h! (Box.new w3 #[.int .i64 p.id,.int .i64 p.typ,.slice af p.src.length cf,.slice av p.vals.length cv] 78)
   obtain ⟨b5,am⟩ : ∃ b5,b5=w3.heap.size:=⟨_,rfl⟩
   rw [<-am] at B5 ⊢
   generalize w3.alloc (.cells #[.int .i64 p.id,.int .i64 p.typ,.slice af p.src.length cf,.slice av p.vals.length cv] 78)=w5 at *
   clear am
   replace HW:=h! (HW.out.trans (aj.out.mono HW.out.size))
   clear aj
   obtain ⟨m0,m1,m2,m3, -, -, -, -⟩:=HQ.out.below HW.out ai
   go_upto_region 7 with (fail)
   clear m0 m1 m2 m3
   have ag:Hid (Below w5.heap.size w5 (w5.alloc (.cells #[.int .i64 q.id,.int .i64 q.typ,.slice df q.src.length ef,.slice dv q.vals.length ev] 78))):=h! ((Below.refl _ _).alloc (aC _) _)
   have B6:=h! (Box.new w5 #[.int .i64 q.id,.int .i64 q.typ,.slice df q.src.length ef,.slice dv q.vals.length ev] 78)
   obtain ⟨b6,an⟩ : ∃ b6,b6=w5.heap.size:=⟨_,rfl⟩
   rw [<-an] at B6 ⊢
   generalize w5.alloc (.cells #[.int .i64 q.id,.int .i64 q.typ,.slice df q.src.length ef,.slice dv q.vals.length ev] 78)=w6 at *
   clear an
   replace HW:=h! (HW.out.trans (ag.out.mono HW.out.size))
   replace B5:=h! (B5.out.later ag.out)
   clear ag
   obtain ⟨c,hc⟩ : ∃ c,c=decide (p=q):=⟨_,rfl⟩
   have HC:=h! hc
   have HCT:Hid (Calls Tryz.prog 131 #[.agg #[.int .i64 p.id,.int .i64 p.typ,.slice af p.src.length cf,.slice av p.vals.length cv],.agg #[.int .i64 q.id,.int .i64 q.typ,.slice df q.src.length ef,.slice dv q.vals.length ev]] w6 fun e w'=>e = .returned (.bool c)/\Below w6.heap.size w6 w'):=h! (by rw [hc];exact (aD6 ⟨_,_,rfl,(HP.out.below HW.out aa).src,(HP.out.below HW.out aa).vals⟩ ⟨_,_,rfl,(HQ.out.below HW.out ai).src,(HQ.out.below HW.out ai).vals⟩))
   clear hc
   obtain ⟨l5,k5,f5⟩:=B5.out
   obtain ⟨l6,k6,f6⟩:=B6.out
   cases c
   ·go_wp2_with (go_at_fn 131;refine HCT.out.mono ?_;rintro e w7 ⟨rfl,hb7⟩;have HB7:=h! hb7;clear hb7)
    have ah:Hid (r=false):=h! (by rw [HR.out,decide_eq_false_iff_not];intro h;have h1:=HC.out;rw [qI h ak.out al.out] at h1;simp at h1)
    go_ret
    exact ⟨by rw [ah.out];rfl,HW.out.trans (HB7.out.mono HW.out.size)⟩
   go_wp2_with (go_at_fn 131;refine HCT.out.mono ?_;rintro e w7 ⟨rfl,hb7⟩;have HB7:=h! hb7;clear hb7)
   have ap:Hid (xs.take (j+1)=ys.take (j+1)):=h! ((oR HS.out ak.out al.out).2 (by have h1:=HC.out;simpa using h1.symm))
   have bb:=h! (HW.out.trans (HB7.out.mono HW.out.size))
   go_roundw
   case rel=>exact ⟨j+1,hlt,by go_num,ap.out,bb.out⟩
   simp [intOf];omega
  have ay:Hid (r=true):=h! (by rw [HR.out,decide_eq_true_eq];have h9:=HS.out;obtain rfl:j=n1:=(by omega);exact qH h9 G1.out.symm G2.out.symm)
  go_wp2
  go_ret
  exact ⟨by rw [ay.out];rfl,HW.out⟩
theorem oS:Enters Tryz.prog 133:=enters_of Tryz.func133 (by kernel_rfl) rfl
theorem aFL {w:World} {v v' : Value} {xs ys:List InstrD} (hv:eU gZ 4 w v xs) (hv' : eU gZ 4 w v' ys) :
  Calls Tryz.prog 132 #[v,v',.func (.func 133) #[] #[]] w fun e w'=>e = .returned (.bool (decide (xs=ys)))/\Below w.heap.size w w':=by
 obtain ⟨a1,c1,b1,o1,rfl,ar,hm1,aq,aa,hx⟩:=fS hv
 obtain ⟨a2,c2,b2,o2,rfl,az,hm2,aw,ac,hy⟩:=fS hv'
 obtain ⟨n1,ad⟩ : ∃ n,n=xs.length:=⟨_,rfl⟩
 obtain ⟨n2,ab⟩ : ∃ n,n=ys.length:=⟨_,rfl⟩
 rw [<-ad] at ar aq aa ⊢
 rw [<-ab] at az aw ac ⊢
 have G1:=h! ad
 have G2:=h! ab
 have ax:=h! aa
 have ba:=h! ac
 have HX:=h! hx
 have HY:=h! hy
 have HW:=h! (Below.refl w.heap.size w)
 obtain ⟨r,hr⟩ : ∃ r,r=decide (xs=ys):=⟨_,rfl⟩
 rw [<-hr]
 have HR:=h! hr
 clear hv hv' ad ab aa ac hx hy hr
 have eg1:∀ (args:Array Value) (w:World),(callFunc 133 args).run Tryz.prog w = .ok (.enter 133 args) w:=oS
 by_cases hnn:n1=n2
 rotate_left
 ·have an:((n1:Int) != (n2:Int))=true:=by simp;omega
  have ag:Hid (r=false):=h! (by rw [HR.out,decide_eq_false_iff_not];intro h;have h1:=G1.out;have h2:=G2.out;rw [h] at h1;omega)
  go_enter Tryz.func132,Tryz.ntmps132
  go_wp2
  go_ret
  exact ⟨by rw [ag.out];rfl,HW.out⟩
 have HNN:=h! hnn
 subst hnn
 have an:((n1:Int) != (n1:Int))=false:=by simp
 go_enter Tryz.func132,Tryz.ntmps132
 go_wp2_with fail
 clear an
 go_loopw [17] (fun i wr => ∃ j:Nat,j <= n1/\i = .int .i64 j/\xs.take j=ys.take j/\Below w.heap.size w wr) (fun i _=>n1 - (intOf i).toNat)
 case atStart=>exact ⟨0,aH _,rfl,rfl,HW.out⟩
 case round =>
  obtain ⟨j,hj,rfl,hs,hW⟩:=hrel
  have HS:=h! hs
  replace HW:=h! hW
  clear hs hW
  generalize wr=w3 at *
  by_cases hlt:j < n1
  ·obtain ⟨rfl,ah⟩:=ax.out (by omega)
   obtain ⟨rfl,ao⟩:=ba.out (by omega)
   obtain ⟨p,hp⟩ : ∃ p,xs[j]? = some p:=⟨_,aB (by have:=G1.out;omega)⟩
   obtain ⟨q,hq⟩ : ∃ q,ys[j]? = some q:=⟨_,aB (by have:=G2.out;omega)⟩
   obtain ⟨af,cf,hP⟩:=HX.out j p hp
   obtain ⟨df,ef,hQ⟩:=HY.out j q hq
   have HP:=h! hP
   have HQ:=h! hQ
   have aj:=h! hp
   have ak:=h! hq
   obtain ⟨m0,m1,m2,m3, -, -, -, -⟩:=hP.below HW.out ah
   clear hp hq hP hQ
   go_upto_region 6 with (fail)
   clear m0 m1 m2 m3
   have ai:Hid (Below w3.heap.size w3 (w3.alloc (.cells #[.int .i64 p.op,.int .i64 p.id,.slice af p.args.length cf,.int .i64 p.n] 82))):=h! ((Below.refl _ _).alloc (aC _) _)
   have B5:=h! (Box.new w3 #[.int .i64 p.op,.int .i64 p.id,.slice af p.args.length cf,.int .i64 p.n] 82)
   obtain ⟨b5,al⟩ : ∃ b5,b5=w3.heap.size:=⟨_,rfl⟩
   rw [<-al] at B5 ⊢
   generalize w3.alloc (.cells #[.int .i64 p.op,.int .i64 p.id,.slice af p.args.length cf,.int .i64 p.n] 82)=w5 at *
   clear al
   replace HW:=h! (HW.out.trans (ai.out.mono HW.out.size))
   clear ai
   obtain ⟨m0,m1,m2,m3, -, -, -, -⟩:=HQ.out.below HW.out ao
   go_upto_region 7 with (fail)
   clear m0 m1 m2 m3
   have ae:Hid (Below w5.heap.size w5 (w5.alloc (.cells #[.int .i64 q.op,.int .i64 q.id,.slice df q.args.length ef,.int .i64 q.n] 82))):=h! ((Below.refl _ _).alloc (aC _) _)
   have B6:=h! (Box.new w5 #[.int .i64 q.op,.int .i64 q.id,.slice df q.args.length ef,.int .i64 q.n] 82)
   obtain ⟨b6,am⟩ : ∃ b6,b6=w5.heap.size:=⟨_,rfl⟩
   rw [<-am] at B6 ⊢
   generalize w5.alloc (.cells #[.int .i64 q.op,.int .i64 q.id,.slice df q.args.length ef,.int .i64 q.n] 82)=w6 at *
   clear am
   replace HW:=h! (HW.out.trans (ae.out.mono HW.out.size))
   replace B5:=h! (B5.out.later ae.out)
   clear ae
   obtain ⟨c,hc⟩ : ∃ c,c=decide (p=q):=⟨_,rfl⟩
   have HC:=h! hc
   have HCT:Hid (Calls Tryz.prog 133 #[.agg #[.int .i64 p.op,.int .i64 p.id,.slice af p.args.length cf,.int .i64 p.n],.agg #[.int .i64 q.op,.int .i64 q.id,.slice df q.args.length ef,.int .i64 q.n]] w6 fun e w'=>e = .returned (.bool c)/\Below w6.heap.size w6 w'):=h! (by rw [hc];exact (aAC ⟨_,rfl,(HP.out.below HW.out ah).args⟩ ⟨_,rfl,(HQ.out.below HW.out ao).args⟩))
   clear hc
   obtain ⟨l5,k5,f5⟩:=B5.out
   obtain ⟨l6,k6,f6⟩:=B6.out
   cases c
   ·go_wp2_with (go_at_fn 133;refine HCT.out.mono ?_;rintro e w7 ⟨rfl,hb7⟩;have HB7:=h! hb7;clear hb7)
    have ag:Hid (r=false):=h! (by rw [HR.out,decide_eq_false_iff_not];intro h;have h1:=HC.out;rw [qI h aj.out ak.out] at h1;simp at h1)
    go_ret
    exact ⟨by rw [ag.out];rfl,HW.out.trans (HB7.out.mono HW.out.size)⟩
   go_wp2_with (go_at_fn 133;refine HCT.out.mono ?_;rintro e w7 ⟨rfl,hb7⟩;have HB7:=h! hb7;clear hb7)
   have ap:Hid (xs.take (j+1)=ys.take (j+1)):=h! ((oR HS.out aj.out ak.out).2 (by have h1:=HC.out;simpa using h1.symm))
   have bb:=h! (HW.out.trans (HB7.out.mono HW.out.size))
   go_roundw
   case rel=>exact ⟨j+1,hlt,by go_num,ap.out,bb.out⟩
   simp [intOf];omega
  have ay:Hid (r=true):=h! (by rw [HR.out,decide_eq_true_eq];have h9:=HS.out;obtain rfl:j=n1:=(by omega);exact qH h9 G1.out.symm G2.out.symm)
  go_wp2
  go_ret
  exact ⟨by rw [ay.out];rfl,HW.out⟩
end Go.Proofs.YtagabiidbbhhmaaGreat
