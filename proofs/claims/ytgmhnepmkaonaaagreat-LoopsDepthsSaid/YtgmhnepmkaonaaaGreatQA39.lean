/- Part 39. -/
import Derived.OwnWalk
import Derived.Test.YtgmhnepmkaonaaaGreatQA36
import Derived.Test.YtgmhnepmkaonaaaGreatQA37
namespace Go.Proofs.YtgmhnepmkaonaaaGreat
private theorem h! {p : Prop} (h : p) : Go.RowKit.Hid p := Go.Lib.hid h
set_option maxHeartbeats 3200000
set_option linter.unusedSimpArgs false
set_option linter.unusedVariables false
open Go.RowKit
theorem eqInts {w:World} {u v:Value} {xs ys:List Int} (hu:Ints w u xs) (hv:Ints w v ys):Calls Tryz.prog 92 #[u,v] w fun e w'=>e = .returned (.bool (decide (xs=ys)))/\Below w.heap.size w w':=by
 obtain ⟨a1,c1,b1,o1,rfl,hc1,hm1,ha1,hx⟩:=hu.parts
 obtain ⟨a2,c2,b2,o2,rfl,hc2,hm2,ha2,hy⟩:=hv.parts
 obtain ⟨n1,hn1⟩ : ∃ n,n=xs.length:=⟨_,rfl⟩
 obtain ⟨n2,hn2⟩ : ∃ n,n=ys.length:=⟨_,rfl⟩
 rw [<-hn1] at hc1 ha1 hx ⊢
 rw [<-hn2] at hc2 ha2 hy ⊢
 have G1:=h! hn1
 have G2:=h! hn2
 have HA1:=h! ha1
 have HA2:=h! ha2
 have HX:=h! hx
 have HY:=h! hy
 have HW:=h! (Below.refl w.heap.size w)
 clear hu hv hn1 hn2 ha1 ha2 hx hy
 by_cases hne:n1=n2
 ·subst hne
  go_enter Tryz.func92,Tryz.ntmps92
  go_wp2_with fail
  go_loopw [13] (fun i wr => ∃ k:Nat,k <= n1/\i = .int .i64 k/\(∀ j,j < k -> xs.getD j 0=ys.getD j 0)/\Below w.heap.size w wr) (fun i _=>n1 - (intOf i).toNat)
  case atStart=>exact ⟨0,Nat.zero_le _,rfl,fun j h=>absurd h (Nat.not_lt_zero _),HW.out⟩
  case round =>
   obtain ⟨k,hk,rfl,hs,hW⟩:=hrel
   have HS:=h! hs
   replace HW:=h! hW
   clear hs hW
   generalize wr=w3 at *
   by_cases hlt:k < n1
   ·obtain ⟨rfl,hb1⟩:=HA1.out (by omega)
    obtain ⟨rfl,hb2⟩:=HA2.out (by omega)
    have hxk:=(HW.out.cell (p:=⟨b1,o1+k,none⟩) hb1).trans (HX.out k hlt)
    have hyk:=(HW.out.cell (p:=⟨b2,o2+k,none⟩) hb2).trans (HY.out k hlt)
    obtain ⟨p,hp⟩ : ∃ p,p=xs.getD k 0:=⟨_,rfl⟩
    obtain ⟨q,hq⟩ : ∃ q,q=ys.getD k 0:=⟨_,rfl⟩
    rw [<-hp] at hxk
    rw [<-hq] at hyk
    have H3:=h! hp
    have H4:=h! hq
    clear hp hq
    cases hpq:(p != q)
    ·have HPQ:=h! hpq
     go_upto_region 6 with (fail)
     go_quiet (fail)
     go_wp2
     go_roundw
     case rel =>
      refine ⟨k+1,hlt,by go_num, ?_,below_drewN HW.out _⟩
      intro j hj
      by_cases e:j=k
      ·subst e
       have:=HPQ.out
       simp at this
       rw [<-H3.out, <-H4.out,this]
      ·exact HS.out j (by omega)
     case measure=>simp [intOf];omega
    ·have HPQ:=h! hpq
     go_upto_region 6 with (fail)
     go_quiet (fail)
     go_wp2
     go_ret
     exact ⟨ret_bool (decide_eq_false (fun e=>by
      have:=HPQ.out
      simp at this
      exact this (by rw [H3.out,H4.out,e]))).symm,below_drewN HW.out _⟩
   ·have hkn:k=n1:=by omega
    have HEQ:Hid (xs=ys):=h! (list_eq (by rw [<-G1.out, <-G2.out]) (by rw [<-G1.out, <-hkn];exact HS.out))
    clear hkn
    go_wp2
    go_ret
    exact ⟨ret_bool (decide_eq_true HEQ.out).symm,HW.out⟩
 ·have hq:((n1:Int) != (n2:Int))=true:=by simp;omega
  have HNE:=h! hne
  clear hne
  go_enter Tryz.func92,Tryz.ntmps92
  go_wp2
  go_ret
  exact ⟨ret_bool (decide_eq_false (fun e=>HNE.out (by rw [G1.out,G2.out,e]))).symm,HW.out⟩
theorem idxFunI {w:World} {v:Value} {xs:List Int} {k:FuncId} {cap:Array Value} (eg:Enters Tryz.prog k) (p:Int -> Bool) (hv:Ints w v xs)
  (hstep:∀ (W:World) (x:Int),x ∈ xs -> Below w.heap.size w W -> Calls Tryz.prog k (#[.int .i64 x] ++ cap) W fun e W'=>e = .returned (.bool (p x))/\Below W.heap.size W W') :
  Calls Tryz.prog 113 #[v,.func (.func k) #[] cap] w fun e w' => ∃ r:Int,e = .returned (.int .i64 r)/\decide (0 <= r)=xs.any p/\Below w.heap.size w w':=by
 obtain ⟨a1,c1,b1,o1,rfl,hc1,hm1,ha1,hx⟩:=hv.parts
 obtain ⟨n1,hn1⟩ : ∃ n,n=xs.length:=⟨_,rfl⟩
 rw [<-hn1] at hc1 ha1 hx ⊢
 have G1:=h! hn1
 have HA1:=h! ha1
 have HX:=h! hx
 have HW:=h! (Below.refl w.heap.size w)
 have HST:=h! hstep
 clear hv hn1 ha1 hx hstep
 have eg1:∀ (args:Array Value) (w:World),(callFunc k args).run Tryz.prog w = .ok (.enter k args) w:=eg
 go_enter Tryz.func113,Tryz.ntmps113
 go_wp2_with fail
 go_loopw [8] (fun i wr => ∃ j:Nat,j <= n1/\i = .int .i64 j/\(xs.take j).any p=false/\Below w.heap.size w wr) (fun i _=>n1 - (intOf i).toNat)
 case atStart=>exact ⟨0,Nat.zero_le _,rfl,rfl,HW.out⟩
 case round =>
  obtain ⟨j,hj,rfl,hs,hW⟩:=hrel
  have HS:=h! hs
  replace HW:=h! hW
  clear hs hW
  generalize wr=w3 at *
  by_cases hlt:j < n1
  ·obtain ⟨rfl,hb1⟩:=HA1.out (by omega)
   have hxk:=(HW.out.cell (p:=⟨b1,o1+j,none⟩) hb1).trans (HX.out j hlt)
   obtain ⟨x,hx⟩ : ∃ x,x=xs.getD j 0:=⟨_,rfl⟩
   rw [<-hx] at hxk
   have hxm:xs[j]? = some x:=by rw [hx];exact list_at xs j (by have:=G1.out;omega)
   have HXM:=h! (List.mem_of_getElem? hxm)
   have HTK:=h! (take_snoc xs j x hxm)
   clear hx hxm
   obtain ⟨c,hc⟩ : ∃ c,c=p x:=⟨_,rfl⟩
   have HC:=h! hc
   have HCT:=h! (HST.out w3 x HXM.out HW.out)
   rw [<-hc] at HCT
   clear hc
   cases c
   ·go_wp2_with (go_at_fn k;refine HCT.out.mono ?_;rintro e w4 ⟨rfl,hb4⟩;have HB4:=h! hb4;clear hb4)
    have HW4:=h! (HW.out.trans (HB4.out.mono HW.out.size))
    have HS2:Hid ((xs.take (j+1)).any p=false):=h! (by rw [HTK.out,List.any_append,HS.out];simp [<-HC.out])
    go_roundw
    case rel=>exact ⟨j+1,hlt,by go_num,HS2.out,HW4.out⟩
    case measure=>simp [intOf];omega
   ·go_wp2_with (go_at_fn k;refine HCT.out.mono ?_;rintro e w4 ⟨rfl,hb4⟩;have HB4:=h! hb4;clear hb4)
    have HW4:=h! (HW.out.trans (HB4.out.mono HW.out.size))
    have HAN:Hid (xs.any p=true):=h! (by rw [List.any_eq_true];exact ⟨x,HXM.out,HC.out.symm⟩)
    go_ret
    exact ⟨j,rfl,by rw [HAN.out];simp,HW4.out⟩
  ·have HAN:Hid (xs.any p=false):=h! (by have h9:=HS.out;rw [List.take_of_length_le (by have:=G1.out;omega)] at h9;exact h9)
   go_wp2
   go_ret
   exact ⟨-1,rfl,by rw [HAN.out];simp,HW.out⟩
theorem contFunI {w:World} {v:Value} {xs:List Int} {k:FuncId} {cap:Array Value} (eg:Enters Tryz.prog k) (p:Int -> Bool) (hv:Ints w v xs)
  (hstep:∀ (W:World) (x:Int),x ∈ xs -> Below w.heap.size w W -> Calls Tryz.prog k (#[.int .i64 x] ++ cap) W fun e W'=>e = .returned (.bool (p x))/\Below W.heap.size W W') :
  Calls Tryz.prog 74 #[v,.func (.func k) #[] cap] w fun e w'=>e = .returned (.bool (xs.any p))/\Below w.heap.size w w':=by
 have HC:=h! (idxFunI eg p hv hstep)
 clear hv hstep
 go_enter Tryz.func74,Tryz.ntmps74
 go_wp2_with fail
 refine HC.out.mono ?_
 rintro e w2 ⟨r,rfl,hr,hb⟩
 have HR:=h! hr
 have HB:=h! hb
 clear hr hb
 go_wp2
 go_ret
 exact ⟨ret_bool HR.out,HB.out⟩
theorem usesCEnters:Enters Tryz.prog 140:=enters_of Tryz.func140 (by kernel_rfl) rfl
def NotAheadR (f:FuncD) (d k b at_:Int) (w:World) (e:Ending) (w' : World):Prop := ∃ r:Bool,e = .returned (.bool r)/\(r=true ↔ ¬ AheadP f d k b at_)/\Below w.heap.size w w'
theorem usesC {f:FuncD} {w:World} {bs bt bg lg lcap bm:Nat} {g:Array Value} {pv ov lv A2:Value} {O:List Nat} {I:Nat -> Option Nat} (hS:StrM f w bs bt bg lg lcap bm g pv ov lv A2 O I) (hO:IsOrder f O) (hD:DomI f O I) (hc:checkF f=0)
  {id d k b at_:Int} {b1 b2 b3:Nat} (he:((entF f).find? fun e=>e.1 == id)=some (id,d,k)) (hd:0 <= d/\d < (f.blocks.length:Int)) (hb:0 <= b/\b < (f.blocks.length:Int))
  (h1:Box w b1 #[.pointer (some ⟨bs,0,none⟩)]) (h2:Box w b2 #[.int .i64 b]) (h3:Box w b3 #[.int .i64 at_]) :
  Calls Tryz.prog 140 #[.int .i64 id,.pointer (some ⟨b1,0,none⟩),.pointer (some ⟨b2,0,none⟩),.pointer (some ⟨b3,0,none⟩)] w (NotAheadR f d k b at_ w):=by
 have HA:=h! (ahead hS hO hD hc (at_:=at_) he hd hb)
 obtain ⟨l1,c1,f1⟩:=h1
 obtain ⟨l2,c2,f2⟩:=h2
 obtain ⟨l3,c3,f3⟩:=h3
 clear hS hO hD hc he hd hb
 go_enter Tryz.func140,Tryz.ntmps140
 go_wp2_with fail
 refine HA.out.mono ?_
 rintro e w2 ⟨r,rfl,hr,hb⟩
 have HR:=h! hr
 have HB:=h! hb
 clear hr hb
 cases r
 ·go_wp2
  go_ret
  exact ⟨true,rfl,⟨(fun _ h=>by have:=HR.out.2 h;simp at this),(fun _=>rfl)⟩,HB.out⟩
 ·go_wp2
  go_ret
  exact ⟨false,rfl,⟨(fun h=>by cases h),(fun h=>absurd (HR.out.1 (by trivial)) h)⟩,HB.out⟩
end Go.Proofs.YtgmhnepmkaonaaaGreat
