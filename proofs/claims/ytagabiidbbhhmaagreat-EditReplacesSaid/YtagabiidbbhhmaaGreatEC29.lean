/- Part 29. -/
import Derived.WalkSmall
import Derived.Test.YtagabiidbbhhmaaGreatEC28
namespace Go.Proofs.YtagabiidbbhhmaaGreat
set_option maxHeartbeats 3200000
set_option linter.all false
open Go.RowKit
theorem oP {α : Type} {xs ys:List α} {i:Nat} {x y : α} (h:xs.take i=ys.take i) (hx:xs[i]? = some x) (hy:ys[i]? = some y):xs.take (i+1)=ys.take (i+1) ↔ x=y:=by
 rw [eM xs i x hx,eM ys i y hy,h]
 simp
theorem qA {α : Type} {xs ys:List α} {n:Nat} (h:xs.take n=ys.take n) (hx:xs.length=n) (hy:ys.length=n):xs=ys:=by
 rw [aH (by omega),aH (by omega)] at h;exact h
theorem qB {α : Type} {xs ys:List α} {i:Nat} {x y : α} (h:xs=ys) (hx:xs[i]? = some x) (hy:ys[i]? = some y):x=y:=by
 rw [h,hy] at hx;exact (Option.some.inj hx).symm
theorem qC:Enters Tryz.prog 131:=enters_of Tryz.func131 (by kernel_rfl) rfl
theorem aE9 {w:World} {v v' : Value} {xs ys:List PhiD} (hv:eR PhiR 4 w v xs) (hv' : eR PhiR 4 w v' ys) :
  Calls Tryz.prog 130 #[v,v',.func (.func 131) #[] #[]] w fun e w'=>e = .returned (.bool (decide (xs=ys)))/\Below w.heap.size w w':=by
 obtain ⟨a1,c1,b1,o1,rfl,hc1,hm1,hl1,ha1,hx⟩:=fC hv
 obtain ⟨a2,c2,b2,o2,rfl,hc2,hm2,hl2,ha2,hy⟩:=fC hv'
 obtain ⟨n1,hn1⟩ : ∃ n,n=xs.length:=⟨_,rfl⟩
 obtain ⟨n2,hn2⟩ : ∃ n,n=ys.length:=⟨_,rfl⟩
 rw [<-hn1] at hc1 hl1 ha1 ⊢
 rw [<-hn2] at hc2 hl2 ha2 ⊢
 have G1:=h! hn1
 have G2:=h! hn2
 have HA1:=h! ha1
 have HA2:=h! ha2
 have HX:=h! hx
 have HY:=h! hy
 have HW:=h! (Below.refl w.heap.size w)
 obtain ⟨r,hr⟩ : ∃ r,r=decide (xs=ys):=⟨_,rfl⟩
 rw [<-hr]
 have HR:=h! hr
 clear hv hv' hn1 hn2 ha1 ha2 hx hy hr
 have eg1:∀ (args:Array Value) (w:World),(callFunc 131 args).run Tryz.prog w = .ok (.enter 131 args) w:=qC
 by_cases hnn:n1=n2
 rotate_left
 ·have hne:((n1:Int) != (n2:Int))=true:=by simp;omega
  have HRF:Hid (r=false):=h! (by rw [HR.out,decide_eq_false_iff_not];intro h;have h1:=G1.out;have h2:=G2.out;rw [h] at h1;omega)
  go_enter Tryz.func130,Tryz.ntmps130
  go_wp2
  go_ret
  exact ⟨by rw [HRF.out];rfl,HW.out⟩
 have HNN:=h! hnn
 subst hnn
 have hne:((n1:Int) != (n1:Int))=false:=by simp
 go_enter Tryz.func130,Tryz.ntmps130
 go_wp2_with fail
 clear hne
 go_loopw [17] (fun i wr => ∃ j:Nat,j <= n1/\i = .int .i64 j/\xs.take j=ys.take j/\Below w.heap.size w wr) (fun i _=>n1 - (intOf i).toNat)
 case atStart=>exact ⟨0,aI _,rfl,rfl,HW.out⟩
 case round =>
  obtain ⟨j,hj,rfl,hs,hW⟩:=hrel
  have HS:=h! hs
  replace HW:=h! hW
  clear hs hW
  generalize wr=w3 at *
  by_cases hlt:j < n1
  ·obtain ⟨rfl,hb1⟩:=HA1.out (by omega)
   obtain ⟨rfl,hb2⟩:=HA2.out (by omega)
   obtain ⟨p,hp⟩ : ∃ p,xs[j]? = some p:=⟨_,aC (by have:=G1.out;omega)⟩
   obtain ⟨q,hq⟩ : ∃ q,ys[j]? = some q:=⟨_,aC (by have:=G2.out;omega)⟩
   obtain ⟨af,av,cf,cv,hP⟩:=HX.out j p hp
   obtain ⟨df,dv,ef,ev,hQ⟩:=HY.out j q hq
   have HP:=h! hP
   have HQ:=h! hQ
   have HPX:=h! hp
   have HQX:=h! hq
   obtain ⟨m0,m1,m2,m3, -, -, -, -⟩:=hP.below HW.out hb1
   clear hp hq hP hQ
   go_upto_region 6 with (fail)
   clear m0 m1 m2 m3
   have HB5:Hid (Below w3.heap.size w3 (w3.alloc (.cells #[.int .i64 p.id,.int .i64 p.typ,.slice af p.src.length cf,.slice av p.vals.length cv] 78))):=h! ((Below.refl _ _).alloc (aA _) _)
   have B5:=h! (Box.new w3 #[.int .i64 p.id,.int .i64 p.typ,.slice af p.src.length cf,.slice av p.vals.length cv] 78)
   obtain ⟨b5,hb5⟩ : ∃ b5,b5=w3.heap.size:=⟨_,rfl⟩
   rw [<-hb5] at B5 ⊢
   generalize w3.alloc (.cells #[.int .i64 p.id,.int .i64 p.typ,.slice af p.src.length cf,.slice av p.vals.length cv] 78)=w5 at *
   clear hb5
   replace HW:=h! (HW.out.trans (HB5.out.mono HW.out.size))
   clear HB5
   obtain ⟨m0,m1,m2,m3, -, -, -, -⟩:=HQ.out.below HW.out hb2
   go_upto_region 7 with (fail)
   clear m0 m1 m2 m3
   have HB6:Hid (Below w5.heap.size w5 (w5.alloc (.cells #[.int .i64 q.id,.int .i64 q.typ,.slice df q.src.length ef,.slice dv q.vals.length ev] 78))):=h! ((Below.refl _ _).alloc (aA _) _)
   have B6:=h! (Box.new w5 #[.int .i64 q.id,.int .i64 q.typ,.slice df q.src.length ef,.slice dv q.vals.length ev] 78)
   obtain ⟨b6,hb6⟩ : ∃ b6,b6=w5.heap.size:=⟨_,rfl⟩
   rw [<-hb6] at B6 ⊢
   generalize w5.alloc (.cells #[.int .i64 q.id,.int .i64 q.typ,.slice df q.src.length ef,.slice dv q.vals.length ev] 78)=w6 at *
   clear hb6
   replace HW:=h! (HW.out.trans (HB6.out.mono HW.out.size))
   replace B5:=h! (B5.out.later HB6.out)
   clear HB6
   obtain ⟨c,hc⟩ : ∃ c,c=decide (p=q):=⟨_,rfl⟩
   have HC:=h! hc
   have HCT:Hid (Calls Tryz.prog 131 #[.agg #[.int .i64 p.id,.int .i64 p.typ,.slice af p.src.length cf,.slice av p.vals.length cv],.agg #[.int .i64 q.id,.int .i64 q.typ,.slice df q.src.length ef,.slice dv q.vals.length ev]] w6 fun e w'=>e = .returned (.bool c)/\Below w6.heap.size w6 w'):=h! (by rw [hc];exact (aD2 ⟨_,_,rfl,(HP.out.below HW.out hb1).src,(HP.out.below HW.out hb1).vals⟩ ⟨_,_,rfl,(HQ.out.below HW.out hb2).src,(HQ.out.below HW.out hb2).vals⟩))
   clear hc
   obtain ⟨l5,k5,f5⟩:=B5.out
   obtain ⟨l6,k6,f6⟩:=B6.out
   cases c
   ·go_wp2_with (go_at_fn 131;refine HCT.out.mono ?_;rintro e w7 ⟨rfl,hb7⟩;have HB7:=h! hb7;clear hb7)
    have HRF:Hid (r=false):=h! (by rw [HR.out,decide_eq_false_iff_not];intro h;have h1:=HC.out;rw [qB h HPX.out HQX.out] at h1;simp at h1)
    go_ret
    exact ⟨by rw [HRF.out];rfl,HW.out.trans (HB7.out.mono HW.out.size)⟩
   go_wp2_with (go_at_fn 131;refine HCT.out.mono ?_;rintro e w7 ⟨rfl,hb7⟩;have HB7:=h! hb7;clear hb7)
   have HS2:Hid (xs.take (j+1)=ys.take (j+1)):=h! ((oP HS.out HPX.out HQX.out).2 (by have h1:=HC.out;simpa using h1.symm))
   have HW4:=h! (HW.out.trans (HB7.out.mono HW.out.size))
   go_roundw
   case rel=>exact ⟨j+1,hlt,by go_num,HS2.out,HW4.out⟩
   simp [intOf];omega
  have HRT:Hid (r=true):=h! (by rw [HR.out,decide_eq_true_eq];have h9:=HS.out;obtain rfl:j=n1:=(by omega);exact qA h9 G1.out.symm G2.out.symm)
  go_wp2
  go_ret
  exact ⟨by rw [HRT.out];rfl,HW.out⟩
theorem oQ:Enters Tryz.prog 133:=enters_of Tryz.func133 (by kernel_rfl) rfl
theorem aFA {w:World} {v v' : Value} {xs ys:List InstrD} (hv:eR gW 4 w v xs) (hv' : eR gW 4 w v' ys) :
  Calls Tryz.prog 132 #[v,v',.func (.func 133) #[] #[]] w fun e w'=>e = .returned (.bool (decide (xs=ys)))/\Below w.heap.size w w':=by
 obtain ⟨a1,c1,b1,o1,rfl,hc1,hm1,hl1,ha1,hx⟩:=fS hv
 obtain ⟨a2,c2,b2,o2,rfl,hc2,hm2,hl2,ha2,hy⟩:=fS hv'
 obtain ⟨n1,hn1⟩ : ∃ n,n=xs.length:=⟨_,rfl⟩
 obtain ⟨n2,hn2⟩ : ∃ n,n=ys.length:=⟨_,rfl⟩
 rw [<-hn1] at hc1 hl1 ha1 ⊢
 rw [<-hn2] at hc2 hl2 ha2 ⊢
 have G1:=h! hn1
 have G2:=h! hn2
 have HA1:=h! ha1
 have HA2:=h! ha2
 have HX:=h! hx
 have HY:=h! hy
 have HW:=h! (Below.refl w.heap.size w)
 obtain ⟨r,hr⟩ : ∃ r,r=decide (xs=ys):=⟨_,rfl⟩
 rw [<-hr]
 have HR:=h! hr
 clear hv hv' hn1 hn2 ha1 ha2 hx hy hr
 have eg1:∀ (args:Array Value) (w:World),(callFunc 133 args).run Tryz.prog w = .ok (.enter 133 args) w:=oQ
 by_cases hnn:n1=n2
 rotate_left
 ·have hne:((n1:Int) != (n2:Int))=true:=by simp;omega
  have HRF:Hid (r=false):=h! (by rw [HR.out,decide_eq_false_iff_not];intro h;have h1:=G1.out;have h2:=G2.out;rw [h] at h1;omega)
  go_enter Tryz.func132,Tryz.ntmps132
  go_wp2
  go_ret
  exact ⟨by rw [HRF.out];rfl,HW.out⟩
 have HNN:=h! hnn
 subst hnn
 have hne:((n1:Int) != (n1:Int))=false:=by simp
 go_enter Tryz.func132,Tryz.ntmps132
 go_wp2_with fail
 clear hne
 go_loopw [17] (fun i wr => ∃ j:Nat,j <= n1/\i = .int .i64 j/\xs.take j=ys.take j/\Below w.heap.size w wr) (fun i _=>n1 - (intOf i).toNat)
 case atStart=>exact ⟨0,aI _,rfl,rfl,HW.out⟩
 case round =>
  obtain ⟨j,hj,rfl,hs,hW⟩:=hrel
  have HS:=h! hs
  replace HW:=h! hW
  clear hs hW
  generalize wr=w3 at *
  by_cases hlt:j < n1
  ·obtain ⟨rfl,hb1⟩:=HA1.out (by omega)
   obtain ⟨rfl,hb2⟩:=HA2.out (by omega)
   obtain ⟨p,hp⟩ : ∃ p,xs[j]? = some p:=⟨_,aC (by have:=G1.out;omega)⟩
   obtain ⟨q,hq⟩ : ∃ q,ys[j]? = some q:=⟨_,aC (by have:=G2.out;omega)⟩
   obtain ⟨af,cf,hP⟩:=HX.out j p hp
   obtain ⟨df,ef,hQ⟩:=HY.out j q hq
   have HP:=h! hP
   have HQ:=h! hQ
   have HPX:=h! hp
   have HQX:=h! hq
   obtain ⟨m0,m1,m2,m3, -, -, -, -⟩:=hP.below HW.out hb1
   clear hp hq hP hQ
   go_upto_region 6 with (fail)
   clear m0 m1 m2 m3
   have HB5:Hid (Below w3.heap.size w3 (w3.alloc (.cells #[.int .i64 p.op,.int .i64 p.id,.slice af p.args.length cf,.int .i64 p.n] 82))):=h! ((Below.refl _ _).alloc (aA _) _)
   have B5:=h! (Box.new w3 #[.int .i64 p.op,.int .i64 p.id,.slice af p.args.length cf,.int .i64 p.n] 82)
   obtain ⟨b5,hb5⟩ : ∃ b5,b5=w3.heap.size:=⟨_,rfl⟩
   rw [<-hb5] at B5 ⊢
   generalize w3.alloc (.cells #[.int .i64 p.op,.int .i64 p.id,.slice af p.args.length cf,.int .i64 p.n] 82)=w5 at *
   clear hb5
   replace HW:=h! (HW.out.trans (HB5.out.mono HW.out.size))
   clear HB5
   obtain ⟨m0,m1,m2,m3, -, -, -, -⟩:=HQ.out.below HW.out hb2
   go_upto_region 7 with (fail)
   clear m0 m1 m2 m3
   have HB6:Hid (Below w5.heap.size w5 (w5.alloc (.cells #[.int .i64 q.op,.int .i64 q.id,.slice df q.args.length ef,.int .i64 q.n] 82))):=h! ((Below.refl _ _).alloc (aA _) _)
   have B6:=h! (Box.new w5 #[.int .i64 q.op,.int .i64 q.id,.slice df q.args.length ef,.int .i64 q.n] 82)
   obtain ⟨b6,hb6⟩ : ∃ b6,b6=w5.heap.size:=⟨_,rfl⟩
   rw [<-hb6] at B6 ⊢
   generalize w5.alloc (.cells #[.int .i64 q.op,.int .i64 q.id,.slice df q.args.length ef,.int .i64 q.n] 82)=w6 at *
   clear hb6
   replace HW:=h! (HW.out.trans (HB6.out.mono HW.out.size))
   replace B5:=h! (B5.out.later HB6.out)
   clear HB6
   obtain ⟨c,hc⟩ : ∃ c,c=decide (p=q):=⟨_,rfl⟩
   have HC:=h! hc
   have HCT:Hid (Calls Tryz.prog 133 #[.agg #[.int .i64 p.op,.int .i64 p.id,.slice af p.args.length cf,.int .i64 p.n],.agg #[.int .i64 q.op,.int .i64 q.id,.slice df q.args.length ef,.int .i64 q.n]] w6 fun e w'=>e = .returned (.bool c)/\Below w6.heap.size w6 w'):=h! (by rw [hc];exact (aAQ ⟨_,rfl,(HP.out.below HW.out hb1).args⟩ ⟨_,rfl,(HQ.out.below HW.out hb2).args⟩))
   clear hc
   obtain ⟨l5,k5,f5⟩:=B5.out
   obtain ⟨l6,k6,f6⟩:=B6.out
   cases c
   ·go_wp2_with (go_at_fn 133;refine HCT.out.mono ?_;rintro e w7 ⟨rfl,hb7⟩;have HB7:=h! hb7;clear hb7)
    have HRF:Hid (r=false):=h! (by rw [HR.out,decide_eq_false_iff_not];intro h;have h1:=HC.out;rw [qB h HPX.out HQX.out] at h1;simp at h1)
    go_ret
    exact ⟨by rw [HRF.out];rfl,HW.out.trans (HB7.out.mono HW.out.size)⟩
   go_wp2_with (go_at_fn 133;refine HCT.out.mono ?_;rintro e w7 ⟨rfl,hb7⟩;have HB7:=h! hb7;clear hb7)
   have HS2:Hid (xs.take (j+1)=ys.take (j+1)):=h! ((oP HS.out HPX.out HQX.out).2 (by have h1:=HC.out;simpa using h1.symm))
   have HW4:=h! (HW.out.trans (HB7.out.mono HW.out.size))
   go_roundw
   case rel=>exact ⟨j+1,hlt,by go_num,HS2.out,HW4.out⟩
   simp [intOf];omega
  have HRT:Hid (r=true):=h! (by rw [HR.out,decide_eq_true_eq];have h9:=HS.out;obtain rfl:j=n1:=(by omega);exact qA h9 G1.out.symm G2.out.symm)
  go_wp2
  go_ret
  exact ⟨by rw [HRT.out];rfl,HW.out⟩
abbrev Foot:=Nat -> Prop
def Foot.or (A B:Foot):Foot:=fun k=>A k \/ B k
def Foot.none:Foot:=fun _=>False
def Foot.one (g:Nat):Foot:=fun k=>k=g
def Foot.off (A B:Foot):Prop := ∀ k,A k -> ¬ B k
theorem Foot.off.symm {A B:Foot} (h:A.off B):B.off A:=fun k hb ha=>h k ha hb
structure Off (S:Foot) (W W' : World):Prop where
 os:W'.os=W.os
 tape:W'.tape=W.tape
 output:W'.output=W.output
 size:W.heap.size <= W'.heap.size
 block:∀ k,k < W.heap.size -> ¬ S k -> W'.heap[k]? = W.heap[k]?
theorem Off.refl (S:Foot) (W:World):Off S W W:=⟨rfl,rfl,rfl,aA _,fun _ _ _=>rfl⟩
theorem Off.trans {S:Foot} {A B C:World} (h:Off S A B) (k:Off S B C):Off S A C :=
 ⟨k.os.trans h.os,k.tape.trans h.tape,k.output.trans h.output,bJ h.size k.size,fun i hi hn=>(k.block i (bC hi h.size) hn).trans (h.block i hi hn)⟩
theorem Off.mono {S S' : Foot} {W W' : World} (h:Off S W W') (hs:∀ k,k < W.heap.size -> S k -> S' k):Off S' W W' :=
 ⟨h.os,h.tape,h.output,h.size,fun k hk hn=>h.block k hk fun hm=>hn (hs k hk hm)⟩
theorem Off.of_below {W W' : World} (h:Below W.heap.size W W') (S:Foot):Off S W W':=⟨h.os,h.tape,h.output,h.size,fun k hk _=>h.block k hk⟩
theorem Off.below {S:Foot} {W W' : World} (h:Off S W W') {base:Nat} (hb:base <= W.heap.size) (hS:∀ k,k < W.heap.size -> S k -> base <= k):Below base W W' :=
 ⟨h.os,h.tape,h.output,h.size,fun k hk=>h.block k (by omega) fun hm=>by have:=hS k (by omega) hm;omega⟩
theorem Off.set (W:World) (p:Addr) (u:Value):Off (Foot.one p.block) W (W.setCell p u) :=
 ⟨rfl,rfl,rfl,by simp [World.setCell],fun k _ hn=>Below.heap_setCell W p u k hn⟩
theorem Off.alloc (S:Foot) (W:World) (o:Obj):Off S W (W.alloc o):=.of_below ((Below.refl _ _).alloc (aA _) o) S
theorem Off.grown {S:Foot} {W W' : World} {row:Option Nat} (hg:W.grownBy W' row) (hS:∀ k,row=some k -> S k):Off S W W' :=
 ⟨hg.os,hg.tape,hg.output,hg.size,fun k hk hn=>hg.block k hk fun e=>hn (hS k e.symm)⟩
theorem Box.off {W W' : World} {b:Nat} {A:Array Value} (h:Box W b A) {S:Foot} (ho:Off S W W') (hn:¬ S b):Box W' b A:=by
 have hh:=ho.block b h.lt hn
 exact ⟨bC h.lt ho.size,fun o=>(World.cell?_of_block (w:=W) (a:=⟨b,o,none⟩) hh).trans (h.cell o),fun o=>(World.frozen?_of_block (w:=W) (a:=⟨b,o,none⟩) hh).trans (h.free o)⟩
structure ORow (W:World) (G:Foot) (e:TypeId) (size:Nat) (v:Value) (n:Nat) (cs:List Value):Prop where
 len:cs.length=n * size
 big:n <= 17592186044416
 lt:∀ k,G k -> k < W.heap.size
 form:(n=0 /\ ∃ a,v = .slice a 0 0) \/ ∃ g cap cur,v = .slice (some ⟨g,0,none⟩) n cap/\G g/\W.heap[g]? = some (.cells cur e (0,0))/\n <= cap/\cap <= maxLen/\cur.size=cap * size/\cur.toList.take (n * size)=cs
theorem ORow.keep {W W' : World} {G:Foot} {e:TypeId} {size:Nat} {v:Value} {n:Nat} {cs:List Value} (h:ORow W G e size v n cs) (hk:∀ k,G k -> W'.heap[k]? = W.heap[k]?):ORow W' G e size v n cs:=by
 refine ⟨h.len,h.big,fun k hg => ?_, ?_⟩
 ·have h1:=hk k hg
  rw [aU (h.lt k hg)] at h1
  exact (aL.1 h1).1
 rcases h.form with h1 | ⟨g,cap,cur,hv,hg,hh,r⟩
 ·exact .inl h1
 exact .inr ⟨g,cap,cur,hv,hg,(hk g hg).trans hh,r⟩
theorem ORow.wide {W:World} {G G' : Foot} {e:TypeId} {size:Nat} {v:Value} {n:Nat} {cs:List Value} (h:ORow W G e size v n cs) (hs:∀ k,G k -> G' k) (hl:∀ k,G' k -> k < W.heap.size):ORow W G' e size v n cs:=by
 refine ⟨h.len,h.big,hl, ?_⟩
 rcases h.form with h1 | ⟨g,cap,cur,hv,hg,r⟩
 ·exact .inl h1
 exact .inr ⟨g,cap,cur,hv,hs g hg,r⟩
theorem ORow.of_own {W:World} {base:Nat} {e:TypeId} {size:Nat} {v:Value} {n:Nat} {cs:List Value} (h:W.ownsRow base e size v n cs) (hn:n <= 17592186044416) {G:Foot} (hG:∀ k,v.ownBlock=some k -> G k) (hl:∀ k,G k -> k < W.heap.size):ORow W G e size v n cs:=by
 refine ⟨h.1,hn,hl, ?_⟩
 rcases h.2 with ⟨rfl,rfl⟩ | ⟨g,cap,cur,rfl,_,r⟩
 ·exact .inl ⟨rfl,_,rfl⟩
 exact .inr ⟨g,cap,cur,rfl,hG g rfl,r⟩
theorem ORow.addr {W:World} {G:Foot} {e:TypeId} {size:Nat} {v:Value} {n:Nat} {cs:List Value} (h:ORow W G e size v n cs) (hn:0 < n) :
  ∃ g cap,v = .slice (some ⟨g,0,none⟩) n cap/\G g/\n <= cap/\cap <= maxLen/\g < W.heap.size/\(∀ i u,cs[i]? = some u -> W.cell? ⟨g,i,none⟩=some u) /\ ∀ i,W.frozen? ⟨g,i,none⟩=false:=by
 rcases h.form with ⟨rfl,_⟩ | ⟨g,cap,cur,rfl,hg,hh,h1,h2,h3,h4⟩
 ·omega
 ·refine ⟨g,cap,rfl,hg,h1,h2,h.lt g hg,fun i u hi => ?_,fun i => ?_⟩
  ·rw [<-h4,aZ] at hi
   split at hi
   ·simp only [World.cell?,hh];simpa using hi
   cases hi
  simp [World.frozen?,hh]
theorem ORow.row {W:World} {G:Foot} {e:TypeId} {size:Nat} {v:Value} {n:Nat} {cs:List Value} (h:ORow W G e size v n cs):Row W v n size cs:=by
 rcases h.form with ⟨rfl,a,rfl⟩ | ⟨g,cap,cur,rfl,hg,hh,h1,h2,h3,h4⟩
 ·have hl:=h.len
  rw [Nat.zero_mul] at hl
  have:=bX hl
  subst this
  exact ⟨by simp,by simp,a,0,rfl,aA _,by unfold maxLen;omega,fun _=>⟨rfl,rfl⟩,fun ad ha j u hj=>by simp at hj⟩
 refine ⟨h.len,h.big,some ⟨g,0,none⟩,cap,rfl,h1,h2,by simp,fun ad ha j u hj => ?_⟩
 cases ha
 rw [qX,bE]
 rw [<-h4,aZ] at hj
 split at hj
 ·simp only [World.cell?,hh];simpa using hj
 cases hj
theorem ORow.set {W:World} {G:Foot} {e:TypeId} {size:Nat} {v:Value} {n:Nat} {cs:List Value} (h:ORow W G e size v n cs) {g cap:Nat} (hv:v = .slice (some ⟨g,0,none⟩) n cap) (hn:0 < n) (i:Nat) (u:Value):ORow (W.setCell ⟨g,i,none⟩ u) G e size v n (cs.set i u):=by
 refine ⟨by rw [List.length_set];exact h.len,h.big,fun k hk=>by simpa [World.setCell] using h.lt k hk, ?_⟩
 rcases h.form with ⟨rfl,_⟩ | ⟨g',cap',cur,hv',hg,hh,h1,h2,h3,h4⟩
 ·omega
 rw [hv] at hv'
 cases hv'
 refine .inr ⟨g,cap,cur.setIfInBounds i u,hv,hg, ?_,h1,h2,by simpa using h3, ?_⟩
 ·have hlt:=(aL.1 hh).1
  have hk:=(aL.1 hh).2
  show (W.heap.modify g _)[g]? = _
  rw [aU (by rw [Array.size_modify];exact hlt),Array.getElem_modify_self,hk]
  rfl
 rw [<-h4,Array.toList_setIfInBounds,List.take_set]
theorem ORow.nil {W:World} {e:TypeId} {size:Nat} (a:Option Addr):ORow W Foot.none e size (.slice a 0 0) 0 []:=⟨by simp,by omega,fun k h=>h.elim,.inl ⟨rfl,a,rfl⟩⟩
theorem ORow.off {W W' : World} {G:Foot} {e:TypeId} {size:Nat} {v:Value} {n:Nat} {cs:List Value} (h:ORow W G e size v n cs) {S:Foot} (ho:Off S W W') (hn:G.off S):ORow W' G e size v n cs :=
 h.keep fun k hk=>ho.block k (h.lt k hk) (hn k hk)
structure Nice {α : Type} (R:World -> Foot -> List Value -> α -> Prop):Prop where
 keep:∀ {W W' : World} {S:Foot} {cs:List Value} {x : α},R W S cs x -> (∀ k,S k -> W'.heap[k]? = W.heap[k]?) -> R W' S cs x
 lt:∀ {W:World} {S:Foot} {cs:List Value} {x : α},R W S cs x -> ∀ k,S k -> k < W.heap.size
 wide:∀ {W:World} {S S' : Foot} {cs:List Value} {x : α},R W S cs x -> (∀ k,S k -> S' k) -> (∀ k,S' k -> k < W.heap.size) -> R W S' cs x
theorem Nice.off {α : Type} {R:World -> Foot -> List Value -> α -> Prop} (hR:Nice R) {W W' : World} {S D:Foot} {cs:List Value} {x : α} (h:R W S cs x) (ho:Off D W W') (hn:S.off D):R W' S cs x :=
 hR.keep h fun k hk=>ho.block k (hR.lt h k hk) (hn k hk)
def iM (cs:List Value) (size j:Nat):List Value:=(cs.drop (j * size)).take size
structure OParts {α : Type} (R:World -> Foot -> List Value -> α -> Prop) (e:TypeId) (size:Nat) (W:World) (S:Foot) (v:Value) (xs:List α) (cs:List Value) (G:Foot) (F:Nat -> Foot):Prop where
 row:ORow W G e size v xs.length cs
 el:∀ j x,xs[j]? = some x -> R W (F j) (iM cs size j) x
 apart:∀ i j,i < xs.length -> j < xs.length -> i ≠ j -> (F i).off (F j)
 free:∀ j,j < xs.length -> (F j).off G
 inG:∀ k,G k -> S k
 inF:∀ j k,j < xs.length -> F j k -> S k
 lt:∀ k,S k -> k < W.heap.size
def OSl {α : Type} (R:World -> Foot -> List Value -> α -> Prop) (e:TypeId) (size:Nat) (W:World) (S:Foot) (v:Value) (xs:List α):Prop := ∃ cs G F,OParts R e size W S v xs cs G F
theorem OParts.keep {α : Type} {R:World -> Foot -> List Value -> α -> Prop} (hR:Nice R) {e:TypeId} {size:Nat} {W W' : World} {S:Foot} {v:Value} {xs:List α} {cs:List Value} {G:Foot} {F:Nat -> Foot} (h:OParts R e size W S v xs cs G F)
  (hk:∀ k,S k -> W'.heap[k]? = W.heap[k]?):OParts R e size W' S v xs cs G F :=
 ⟨h.row.keep fun k hg=>hk k (h.inG k hg),fun j x hj=>hR.keep (h.el j x hj) fun k hf=>hk k (h.inF j k (aD.1 hj).1 hf),h.apart,h.free,h.inG,h.inF,fun k hs=>by
  have h1:=hk k hs
  rw [aU (h.lt k hs)] at h1
  exact (aL.1 h1).1⟩
theorem OParts.wide {α : Type} {R:World -> Foot -> List Value -> α -> Prop} {e:TypeId} {size:Nat} {W:World} {S S' : Foot} {v:Value} {xs:List α} {cs:List Value} {G:Foot} {F:Nat -> Foot} (h:OParts R e size W S v xs cs G F)
  (hs:∀ k,S k -> S' k) (hl:∀ k,S' k -> k < W.heap.size):OParts R e size W S' v xs cs G F :=
 ⟨h.row,h.el,h.apart,h.free,fun k hg=>hs k (h.inG k hg),fun j k hj hf=>hs k (h.inF j k hj hf),hl⟩
theorem OSl.nice {α : Type} {R:World -> Foot -> List Value -> α -> Prop} (hR:Nice R) (e:TypeId) (size:Nat):Nice (fun W S cs (xs:List α) => ∃ v,cs=[v]/\OSl R e size W S v xs) where
 keep:=fun ⟨v,hv,cs,G,F,h⟩ hk=>⟨v,hv,cs,G,F,h.keep hR hk⟩
 lt:=fun ⟨v,hv,cs,G,F,h⟩=>h.lt
 wide:=fun ⟨v,hv,cs,G,F,h⟩ hs hl=>⟨v,hv,cs,G,F,h.wide hs hl⟩
theorem OSl.keep {α : Type} {R:World -> Foot -> List Value -> α -> Prop} (hR:Nice R) {e:TypeId} {size:Nat} {W W' : World} {S:Foot} {v:Value} {xs:List α} (h:OSl R e size W S v xs) (hk:∀ k,S k -> W'.heap[k]? = W.heap[k]?):OSl R e size W' S v xs :=
 let ⟨cs,G,F,h⟩:=h; ⟨cs,G,F,h.keep hR hk⟩
theorem OSl.wide {α : Type} {R:World -> Foot -> List Value -> α -> Prop} {e:TypeId} {size:Nat} {W:World} {S S' : Foot} {v:Value} {xs:List α} (h:OSl R e size W S v xs) (hs:∀ k,S k -> S' k) (hl:∀ k,S' k -> k < W.heap.size):OSl R e size W S' v xs :=
 let ⟨cs,G,F,h⟩:=h; ⟨cs,G,F,h.wide hs hl⟩
theorem OSl.lt {α : Type} {R:World -> Foot -> List Value -> α -> Prop} {e:TypeId} {size:Nat} {W:World} {S:Foot} {v:Value} {xs:List α} (h:OSl R e size W S v xs):∀ k,S k -> k < W.heap.size :=
 let ⟨cs,G,F,h⟩:=h;h.lt
theorem OSl.off {α : Type} {R:World -> Foot -> List Value -> α -> Prop} (hR:Nice R) {e:TypeId} {size:Nat} {W W' : World} {S D:Foot} {v:Value} {xs:List α} (h:OSl R e size W S v xs) (ho:Off D W W') (hn:S.off D):OSl R e size W' S v xs :=
 h.keep hR fun k hk=>ho.block k (h.lt k hk) (hn k hk)
theorem OSl.nil {α : Type} {R:World -> Foot -> List Value -> α -> Prop} {e:TypeId} {size:Nat} {W:World} (a:Option Addr):OSl R e size W Foot.none (.slice a 0 0) ([] : List α) :=
 ⟨[],Foot.none,fun _=>Foot.none,ORow.nil a,by simp,fun i j hi=>by simp at hi,fun j hj=>by simp at hj,fun k h=>h,fun j k hj=>by simp at hj,fun k h=>h.elim⟩
theorem OSl.reads {α : Type} {R:World -> Foot -> List Value -> α -> Prop} {R0:World -> List Value -> α -> Prop} {e:TypeId} {size:Nat} {W:World} {S:Foot} {v:Value} {xs:List α} (h:OSl R e size W S v xs) (hr:∀ S cs x,R W S cs x -> R0 W cs x):eR R0 size W v xs :=
 let ⟨cs,G,F,h⟩:=h; ⟨cs,h.row.row,fun j x hj=>hr _ _ _ (h.el j x hj)⟩
theorem OParts.put {α : Type} {R:World -> Foot -> List Value -> α -> Prop} (hR:Nice R) {e:TypeId} {size:Nat} {W W' : World} {S:Foot} {v:Value} {xs:List α} {cs:List Value} {G:Foot} {F:Nat -> Foot} (h:OParts R e size W S v xs cs G F)
  {j:Nat} {x : α} (hj:xs[j]? = some x) (x' : α) {cs' : List Value} {Fj:Foot} (ho:Off (G.or (F j)) W W') (hrow:ORow W' G e size v xs.length cs') (hcs:∀ i,i < xs.length -> i ≠ j -> iM cs' size i=iM cs size i)
  (hel:R W' Fj (iM cs' size j) x') (hF:∀ k,Fj k -> F j k \/ ¬ S k) (S' : Foot) (hS:∀ k,S k -> S' k) (hS2:∀ k,Fj k -> S' k) (hl:∀ k,S' k -> k < W'.heap.size) :
  OParts R e size W' S' v (xs.set j x') cs' G (fun i=>if i=j then Fj else F i):=by
 have hjl:=(aD.1 hj).1
 refine ⟨by rw [cI];exact hrow,fun i y hi => ?_,fun a b ha hb hab k h1 h2 => ?_,fun i hi k h1 h2 => ?_,fun k hg=>hS k (h.inG k hg),fun i k hi h1 => ?_,hl⟩
 ·rw [cH] at hi
  by_cases e1:j=i
  ·subst e1
   simp only [if_true,hjl] at hi
   cases hi
   rw [if_pos rfl];exact hel
  rw [if_neg e1] at hi
  have hil:=(aD.1 hi).1
  rw [if_neg (Ne.symm e1),hcs i hil (Ne.symm e1)]
  refine hR.off (h.el i y hi) ho fun k hk hm => ?_
  rcases hm with hm | hm
  ·exact h.free i hil k hk hm
  exact h.apart i j hil hjl (Ne.symm e1) k hk hm
 ·rw [cI] at ha hb
  by_cases e1:a=j
  ·have e2:b ≠ j:=fun e2=>hab (e1.trans e2.symm)
   rw [if_pos e1] at h1
   rw [if_neg e2] at h2
   rcases hF k h1 with h3 | h3
   ·exact h.apart j b hjl hb (Ne.symm e2) k h3 h2
   exact h3 (h.inF b k hb h2)
  rw [if_neg e1] at h1
  by_cases e2:b=j
  ·rw [if_pos e2] at h2
   rcases hF k h2 with h3 | h3
   ·exact h.apart a j ha hjl e1 k h1 h3
   exact h3 (h.inF a k ha h1)
  rw [if_neg e2] at h2
  exact h.apart a b ha hb hab k h1 h2
 ·rw [cI] at hi
  by_cases e1:i=j
  ·rw [if_pos e1] at h1
   rcases hF k h1 with h3 | h3
   ·exact h.free j hjl k h3 h2
   exact h3 (h.inG k h2)
  rw [if_neg e1] at h1
  exact h.free i hi k h1 h2
 ·rw [cI] at hi
  by_cases e1:i=j
  ·rw [if_pos e1] at h1;exact hS2 k h1
  rw [if_neg e1] at h1;exact hS k (h.inF i k hi h1)
theorem OParts.snoc {α : Type} {R:World -> Foot -> List Value -> α -> Prop} (hR:Nice R) {e:TypeId} {size:Nat} {W W' : World} {S:Foot} {v v' : Value} {xs:List α} {cs:List Value} {G G' : Foot} {F:Nat -> Foot} (h:OParts R e size W S v xs cs G F)
  {x : α} {ds:List Value} {Fn:Foot} (hx:R W Fn ds x) (hFn:Fn.off S) (ho:Off G W W') (hrow:ORow W' G' e size v' (xs.length+1) (cs ++ ds)) (hG:∀ k,G' k -> G k \/ W.heap.size <= k) :
  OParts R e size W' (fun k=>S k \/ Fn k \/ G' k) v' (xs ++ [x]) (cs ++ ds) G' (fun i=>if i=xs.length then Fn else F i):=by
 have hlen:=h.row.len
 have hds:ds.length=size:=by have:=hrow.len;rw [aK,hlen,eG,eH] at this;omega
 have hFl:∀ i k,i < xs.length -> F i k -> k < W.heap.size:=fun i k hi hf=>h.lt k (h.inF i k hi hf)
 refine ⟨by rw [aK];exact hrow,fun i y hi => ?_,fun a b ha hb hab k h1 h2 => ?_,fun i hi k h1 h2 => ?_,fun k hg=>.inr (.inr hg),fun i k hi h1 => ?_,fun k hk => ?_⟩
 ·have hil:=(aD.1 hi).1
  rw [aK,eB] at hil
  by_cases e1:i=xs.length
  ·subst e1
   rw [cA (aA _),dU] at hi
   cases hi
   rw [if_pos rfl]
   have:iM (cs ++ ds) size xs.length=ds:=by unfold iM;rw [<-hlen,List.drop_left,aH (by omega)]
   rw [this]
   exact hR.off hx ho fun k h1 h2=>hFn k h1 (h.inG k h2)
  have hi2:i < xs.length:=by omega
  rw [dL hi2] at hi
  rw [if_neg e1]
  have hm:i * size+size <= cs.length:=by rw [hlen];have:(i+1) * size <= xs.length * size:=dI _ hi2;rw [eG,eH] at this;exact this
  have:iM (cs ++ ds) size i=iM cs size i:=by unfold iM;rw [List.drop_append_of_le_length (by omega),List.take_append_of_le_length (by rw [dB];omega)]
  rw [this]
  exact hR.off (h.el i y hi) ho (h.free i hi2)
 ·rw [aK,eB] at ha hb
  by_cases e1:a=xs.length
  ·have e2:b ≠ xs.length:=fun e2=>hab (e1.trans e2.symm)
   rw [if_pos e1] at h1
   rw [if_neg e2] at h2
   exact hFn k h1 (h.inF b k (by omega) h2)
  rw [if_neg e1] at h1
  by_cases e2:b=xs.length
  ·rw [if_pos e2] at h2
   exact hFn k h2 (h.inF a k (by omega) h1)
  rw [if_neg e2] at h2
  exact h.apart a b (by omega) (by omega) hab k h1 h2
 ·rw [aK,eB] at hi
  by_cases e1:i=xs.length
  ·rw [if_pos e1] at h1
   rcases hG k h2 with h3 | h3
   ·exact hFn k h1 (h.inG k h3)
   have:=hR.lt hx k h1;omega
  rw [if_neg e1] at h1
  rcases hG k h2 with h3 | h3
  ·exact h.free i (by omega) k h1 h3
  have:=hFl i k (by omega) h1;omega
 ·rw [aK,eB] at hi
  by_cases e1:i=xs.length
  ·rw [if_pos e1] at h1;exact .inr (.inl h1)
  rw [if_neg e1] at h1;exact .inl (h.inF i k (by omega) h1)
 ·rcases hk with hk | hk | hk
  ·exact bC (h.lt k hk) ho.size
  ·exact bC (hR.lt hx k hk) ho.size
  exact hrow.lt k hk
theorem iC {cs:List Value} {size i j o:Nat} {u:Value} (hij:i ≠ j) (ho:o < size):iM (cs.set (j * size+o) u) size i=iM cs size i:=by
 unfold iM
 apply bK
 intro k
 rw [aZ,aZ]
 split
 ·rename_i hk
  rw [bM,bM,cH,if_neg]
  intro e
  rcases Nat.lt_or_gt_of_ne hij with h | h
  ·have:(i+1) * size <= j * size:=dI _ h
   rw [eG,eH] at this;omega
  have:(j+1) * size <= i * size:=dI _ h
  rw [eG,eH] at this;omega
 rfl
theorem eZ {cs:List Value} {size j o:Nat} {u:Value} (ho:o < size):iM (cs.set (j * size+o) u) size j=(iM cs size j).set o u:=by
 unfold iM
 apply bK
 intro k
 rw [aZ,cH,aZ,bM,cH,bM,aW,dB]
 by_cases hk:o=k
 ·subst hk
  simp only [ho,if_true]
  by_cases hl:j * size+o < cs.length
  ·rw [if_pos hl,if_pos (by omega)]
  rw [if_neg hl,if_neg (by omega)]
 rw [if_neg hk]
 have h1:¬ (j * size+o=j * size+k):=by omega
 simp only [h1,if_false]
theorem aAD {cs:List Value} {n size j:Nat} (h:cs.length=n * size) (hj:j < n):(iM cs size j).length=size:=by
 unfold iM
 rw [aW,dB,h]
 have:(j+1) * size <= n * size:=dI _ hj
 rw [eG,eH] at this;omega
theorem jM {cs:List Value} {size j i:Nat} (hi:i < size):(iM cs size j)[i]? = cs[j * size+i]?:=by
 unfold iM;rw [aZ,if_pos hi,bM]
end Go.Proofs.YtagabiidbbhhmaaGreat
