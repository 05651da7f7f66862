/- Part 13. -/
import Derived.Test.YtagabiidbbhhmaaGreatEB12
namespace Go.Proofs.YtagabiidbbhhmaaGreat
set_option maxHeartbeats 6400000
set_option linter.all false
open Go.RowKit
def strA (l:List Int):ByteArray:=⟨(l.map fun t=>if t=1 then (73:UInt8) else 66).toArray⟩
def eW (op:Int) (w:World) (e:Ending) (w' : World):Prop:=e = .returned (.tuple #[.string (strA (shp0 op).args),.int .i64 (shp0 op).result,.int .i64 (shp0 op).n,.bool (shp op).isSome])/\w=w'
theorem xX {w:World}:Calls Tryz.prog 93 #[.int .i64 1] w (eW 1 w):=by
 go_enter Tryz.func93,Tryz.ntmps93
 go_wp2
 exact bodyPost_ret (v:=.tuple #[.string ⟨#[]⟩,.int .i64 1,.int .i64 1,.bool true]) (by simp [results,Tryz.results93,go_sem, *]) rfl ⟨rfl,rfl⟩
theorem xY {w:World}:Calls Tryz.prog 93 #[.int .i64 2] w (eW 2 w):=by
 go_enter Tryz.func93,Tryz.ntmps93
 go_wp2
 exact bodyPost_ret (v:=.tuple #[.string ⟨#[]⟩,.int .i64 2,.int .i64 2,.bool true]) (by simp [results,Tryz.results93,go_sem, *]) rfl ⟨rfl,rfl⟩
theorem xZ {w:World}:Calls Tryz.prog 93 #[.int .i64 3] w (eW 3 w):=by
 go_enter Tryz.func93,Tryz.ntmps93
 go_wp2
 exact bodyPost_ret (v:=.tuple #[.string ⟨#[73,73]⟩,.int .i64 1,.int .i64 0,.bool true]) (by simp [results,Tryz.results93,go_sem, *]) rfl ⟨rfl,rfl⟩
theorem yA {w:World}:Calls Tryz.prog 93 #[.int .i64 4] w (eW 4 w):=by
 go_enter Tryz.func93,Tryz.ntmps93
 go_wp2
 exact bodyPost_ret (v:=.tuple #[.string ⟨#[73,73]⟩,.int .i64 1,.int .i64 0,.bool true]) (by simp [results,Tryz.results93,go_sem, *]) rfl ⟨rfl,rfl⟩
theorem yB {w:World}:Calls Tryz.prog 93 #[.int .i64 5] w (eW 5 w):=by
 go_enter Tryz.func93,Tryz.ntmps93
 go_wp2
 exact bodyPost_ret (v:=.tuple #[.string ⟨#[73,73]⟩,.int .i64 1,.int .i64 0,.bool true]) (by simp [results,Tryz.results93,go_sem, *]) rfl ⟨rfl,rfl⟩
theorem yC {w:World}:Calls Tryz.prog 93 #[.int .i64 6] w (eW 6 w):=by
 go_enter Tryz.func93,Tryz.ntmps93
 go_wp2
 exact bodyPost_ret (v:=.tuple #[.string ⟨#[73,73]⟩,.int .i64 1,.int .i64 0,.bool true]) (by simp [results,Tryz.results93,go_sem, *]) rfl ⟨rfl,rfl⟩
theorem yD {w:World}:Calls Tryz.prog 93 #[.int .i64 7] w (eW 7 w):=by
 go_enter Tryz.func93,Tryz.ntmps93
 go_wp2
 exact bodyPost_ret (v:=.tuple #[.string ⟨#[73,73]⟩,.int .i64 1,.int .i64 0,.bool true]) (by simp [results,Tryz.results93,go_sem, *]) rfl ⟨rfl,rfl⟩
theorem yE {w:World}:Calls Tryz.prog 93 #[.int .i64 8] w (eW 8 w):=by
 go_enter Tryz.func93,Tryz.ntmps93
 go_wp2
 exact bodyPost_ret (v:=.tuple #[.string ⟨#[73,73]⟩,.int .i64 1,.int .i64 0,.bool true]) (by simp [results,Tryz.results93,go_sem, *]) rfl ⟨rfl,rfl⟩
theorem yF {w:World}:Calls Tryz.prog 93 #[.int .i64 9] w (eW 9 w):=by
 go_enter Tryz.func93,Tryz.ntmps93
 go_wp2
 exact bodyPost_ret (v:=.tuple #[.string ⟨#[73,73]⟩,.int .i64 1,.int .i64 0,.bool true]) (by simp [results,Tryz.results93,go_sem, *]) rfl ⟨rfl,rfl⟩
theorem uV {w:World}:Calls Tryz.prog 93 #[.int .i64 10] w (eW 10 w):=by
 go_enter Tryz.func93,Tryz.ntmps93
 go_wp2
 exact bodyPost_ret (v:=.tuple #[.string ⟨#[73,73]⟩,.int .i64 1,.int .i64 0,.bool true]) (by simp [results,Tryz.results93,go_sem, *]) rfl ⟨rfl,rfl⟩
theorem uW {w:World}:Calls Tryz.prog 93 #[.int .i64 11] w (eW 11 w):=by
 go_enter Tryz.func93,Tryz.ntmps93
 go_wp2
 exact bodyPost_ret (v:=.tuple #[.string ⟨#[73,73]⟩,.int .i64 1,.int .i64 0,.bool true]) (by simp [results,Tryz.results93,go_sem, *]) rfl ⟨rfl,rfl⟩
theorem uX {w:World}:Calls Tryz.prog 93 #[.int .i64 12] w (eW 12 w):=by
 go_enter Tryz.func93,Tryz.ntmps93
 go_wp2
 exact bodyPost_ret (v:=.tuple #[.string ⟨#[73,73]⟩,.int .i64 1,.int .i64 0,.bool true]) (by simp [results,Tryz.results93,go_sem, *]) rfl ⟨rfl,rfl⟩
theorem uY {w:World}:Calls Tryz.prog 93 #[.int .i64 13] w (eW 13 w):=by
 go_enter Tryz.func93,Tryz.ntmps93
 go_wp2
 exact bodyPost_ret (v:=.tuple #[.string ⟨#[73,73]⟩,.int .i64 2,.int .i64 0,.bool true]) (by simp [results,Tryz.results93,go_sem, *]) rfl ⟨rfl,rfl⟩
theorem uZ {w:World}:Calls Tryz.prog 93 #[.int .i64 14] w (eW 14 w):=by
 go_enter Tryz.func93,Tryz.ntmps93
 go_wp2
 exact bodyPost_ret (v:=.tuple #[.string ⟨#[73,73]⟩,.int .i64 2,.int .i64 0,.bool true]) (by simp [results,Tryz.results93,go_sem, *]) rfl ⟨rfl,rfl⟩
theorem vA {w:World}:Calls Tryz.prog 93 #[.int .i64 15] w (eW 15 w):=by
 go_enter Tryz.func93,Tryz.ntmps93
 go_wp2
 exact bodyPost_ret (v:=.tuple #[.string ⟨#[73,73]⟩,.int .i64 2,.int .i64 0,.bool true]) (by simp [results,Tryz.results93,go_sem, *]) rfl ⟨rfl,rfl⟩
theorem vB {w:World}:Calls Tryz.prog 93 #[.int .i64 16] w (eW 16 w):=by
 go_enter Tryz.func93,Tryz.ntmps93
 go_wp2
 exact bodyPost_ret (v:=.tuple #[.string ⟨#[66]⟩,.int .i64 2,.int .i64 0,.bool true]) (by simp [results,Tryz.results93,go_sem, *]) rfl ⟨rfl,rfl⟩
theorem vC {w:World}:Calls Tryz.prog 93 #[.int .i64 17] w (eW 17 w):=by
 go_enter Tryz.func93,Tryz.ntmps93
 go_wp2
 exact bodyPost_ret (v:=.tuple #[.string ⟨#[66,73,73]⟩,.int .i64 1,.int .i64 0,.bool true]) (by simp [results,Tryz.results93,go_sem, *]) rfl ⟨rfl,rfl⟩
theorem vD {w:World}:Calls Tryz.prog 93 #[.int .i64 18] w (eW 18 w):=by
 go_enter Tryz.func93,Tryz.ntmps93
 go_wp2
 exact bodyPost_ret (v:=.tuple #[.string ⟨#[]⟩,.int .i64 1,.int .i64 3,.bool true]) (by simp [results,Tryz.results93,go_sem, *]) rfl ⟨rfl,rfl⟩
theorem vE {w:World}:Calls Tryz.prog 93 #[.int .i64 19] w (eW 19 w):=by
 go_enter Tryz.func93,Tryz.ntmps93
 go_wp2
 exact bodyPost_ret (v:=.tuple #[.string ⟨#[73]⟩,.int .i64 1,.int .i64 3,.bool true]) (by simp [results,Tryz.results93,go_sem, *]) rfl ⟨rfl,rfl⟩
theorem vF {w:World}:Calls Tryz.prog 93 #[.int .i64 21] w (eW 21 w):=by
 go_enter Tryz.func93,Tryz.ntmps93
 go_wp2
 exact bodyPost_ret (v:=.tuple #[.string ⟨#[73]⟩,.int .i64 1,.int .i64 3,.bool true]) (by simp [results,Tryz.results93,go_sem, *]) rfl ⟨rfl,rfl⟩
theorem vG {w:World}:Calls Tryz.prog 93 #[.int .i64 20] w (eW 20 w):=by
 go_enter Tryz.func93,Tryz.ntmps93
 go_wp2
 exact bodyPost_ret (v:=.tuple #[.string ⟨#[73,73]⟩,.int .i64 0,.int .i64 3,.bool true]) (by simp [results,Tryz.results93,go_sem, *]) rfl ⟨rfl,rfl⟩
theorem vH {w:World}:Calls Tryz.prog 93 #[.int .i64 22] w (eW 22 w):=by
 go_enter Tryz.func93,Tryz.ntmps93
 go_wp2
 exact bodyPost_ret (v:=.tuple #[.string ⟨#[73,73]⟩,.int .i64 0,.int .i64 3,.bool true]) (by simp [results,Tryz.results93,go_sem, *]) rfl ⟨rfl,rfl⟩
theorem vI {w:World}:Calls Tryz.prog 93 #[.int .i64 23] w (eW 23 w):=by
 go_enter Tryz.func93,Tryz.ntmps93
 go_wp2
 exact bodyPost_ret (v:=.tuple #[.string ⟨#[73]⟩,.int .i64 0,.int .i64 0,.bool true]) (by simp [results,Tryz.results93,go_sem, *]) rfl ⟨rfl,rfl⟩
theorem vJ {w:World}:Calls Tryz.prog 93 #[.int .i64 24] w (eW 24 w):=by
 go_enter Tryz.func93,Tryz.ntmps93
 go_wp2
 exact bodyPost_ret (v:=.tuple #[.string ⟨#[]⟩,.int .i64 1,.int .i64 4,.bool true]) (by simp [results,Tryz.results93,go_sem, *]) rfl ⟨rfl,rfl⟩
theorem vK {w:World}:Calls Tryz.prog 93 #[.int .i64 25] w (eW 25 w):=by
 go_enter Tryz.func93,Tryz.ntmps93
 go_wp2
 exact bodyPost_ret (v:=.tuple #[.string ⟨#[73]⟩,.int .i64 0,.int .i64 4,.bool true]) (by simp [results,Tryz.results93,go_sem, *]) rfl ⟨rfl,rfl⟩
theorem vL {w:World} {op:Int} (h:op < 1 \/ 25 < op):Calls Tryz.prog 93 #[.int .i64 op] w (eW op w):=by
 have HS:=h! (show shp op=none by unfold shp;repeat (rw [if_neg (by omega)]))
 have e1:(op == 1)=false:=by simp;omega
 have e2:(op == 2)=false:=by simp;omega
 have e3:(op == 3)=false:=by simp;omega
 have e4:(op == 4)=false:=by simp;omega
 have e5:(op == 5)=false:=by simp;omega
 have e6:(op == 6)=false:=by simp;omega
 have e7:(op == 7)=false:=by simp;omega
 have e8:(op == 8)=false:=by simp;omega
 have e9:(op == 9)=false:=by simp;omega
 have e10:(op == 10)=false:=by simp;omega
 have e11:(op == 11)=false:=by simp;omega
 have e12:(op == 12)=false:=by simp;omega
 have e13:(op == 13)=false:=by simp;omega
 have e14:(op == 14)=false:=by simp;omega
 have e15:(op == 15)=false:=by simp;omega
 have e16:(op == 16)=false:=by simp;omega
 have e17:(op == 17)=false:=by simp;omega
 have e18:(op == 18)=false:=by simp;omega
 have e19:(op == 19)=false:=by simp;omega
 have e20:(op == 20)=false:=by simp;omega
 have e21:(op == 21)=false:=by simp;omega
 have e22:(op == 22)=false:=by simp;omega
 have e23:(op == 23)=false:=by simp;omega
 have e24:(op == 24)=false:=by simp;omega
 have e25:(op == 25)=false:=by simp;omega
 clear h
 go_enter Tryz.func93,Tryz.ntmps93
 go_wp2
 exact bodyPost_ret (v:=.tuple #[.string ⟨#[]⟩,.int .i64 0,.int .i64 0,.bool false]) (by simp [results,Tryz.results93,go_sem, *]) rfl ⟨by unfold shp0;rw [HS.out];rfl,rfl⟩
theorem nQ {w:World} (op:Int):Calls Tryz.prog 93 #[.int .i64 op] w (eW op w):=by
 by_cases h:op < 1 \/ 25 < op
 ·exact vL h
 obtain rfl | rfl | rfl | rfl | rfl | rfl | rfl | rfl | rfl | rfl | rfl | rfl | rfl | rfl | rfl | rfl | rfl | rfl | rfl | rfl | rfl | rfl | rfl | rfl | rfl:op=1 \/ op=2 \/ op=3 \/ op=4 \/ op=5 \/ op=6 \/ op=7 \/ op=8 \/ op=9 \/ op=10 \/ op=11 \/ op=12 \/ op=13 \/ op=14 \/ op=15 \/ op=16 \/ op=17 \/ op=18 \/ op=19 \/ op=20 \/ op=21 \/ op=22 \/ op=23 \/ op=24 \/ op=25:=by omega
 ·exact xX
 ·exact xY
 ·exact xZ
 ·exact yA
 ·exact yB
 ·exact yC
 ·exact yD
 ·exact yE
 ·exact yF
 ·exact uV
 ·exact uW
 ·exact uX
 ·exact uY
 ·exact uZ
 ·exact vA
 ·exact vB
 ·exact vC
 ·exact vD
 ·exact vE
 ·exact vG
 ·exact vF
 ·exact vH
 ·exact vI
 ·exact vJ
 exact vK
theorem yG {op:Int} (h:op < 1 \/ 25 < op):shp0 op=⟨0,[],0⟩:=by
 have HS:shp op=none:=by unfold shp;repeat (rw [if_neg (by omega)])
 unfold shp0;rw [HS];rfl
theorem mE (op:Int):(shp0 op).args.length <= 3/\(∀ t ∈ (shp0 op).args,t=1 \/ t=2)/\0 <= (shp0 op).result/\(shp0 op).result <= 2:=by
 by_cases h:op < 1 \/ 25 < op
 ·rw [yG h];simp
 obtain rfl | rfl | rfl | rfl | rfl | rfl | rfl | rfl | rfl | rfl | rfl | rfl | rfl | rfl | rfl | rfl | rfl | rfl | rfl | rfl | rfl | rfl | rfl | rfl | rfl:op=1 \/ op=2 \/ op=3 \/ op=4 \/ op=5 \/ op=6 \/ op=7 \/ op=8 \/ op=9 \/ op=10 \/ op=11 \/ op=12 \/ op=13 \/ op=14 \/ op=15 \/ op=16 \/ op=17 \/ op=18 \/ op=19 \/ op=20 \/ op=21 \/ op=22 \/ op=23 \/ op=24 \/ op=25:=by omega
 all_goals decide
theorem jO {w:World} {T:TypeId} {B:Nat} {bs:List Nat} (hB:B <= w.heap.size) (hbs:∀ b ∈ bs,b ≠ w.heap.size) (size:Nat):Own (w.alloc (.cells #[] T)) B bs T size (.slice (some ⟨w.heap.size,0,none⟩) 0 0) 0 [] :=
 ⟨⟨by simp,.inr ⟨w.heap.size,0,#[],by simp,hB,by (show (w.heap.push _)[w.heap.size]? = _);simp,by simp,by unfold maxLen;omega,by simp,by simp⟩⟩,fun g hg hm=>by cases hg;exact hbs _ hm rfl⟩
def aBF (op:Int) (w:World) (e:Ending) (w' : World):Prop := ∃ u,e = .returned (.tuple #[.int .i64 (shp0 op).result,u,.bool (shp op).isSome])/\New 3 w w' u (shp0 op).args/\Below w.heap.size w w'
theorem aDA {w:World} (op:Int):Calls Tryz.prog 53 #[.int .i64 op] w (aBF op w):=by
 obtain ⟨args,hargs⟩ : ∃ args,args=(shp0 op).args:=⟨_,rfl⟩
 obtain ⟨n,hn⟩ : ∃ n,n=args.length:=⟨_,rfl⟩
 have h12:=mE op
 rw [<-hargs, <-hn] at h12
 have H12:=h! h12.2.1
 have hn3:=h12.1
 obtain ⟨s,hs⟩ : ∃ s,s=strA args:=⟨_,rfl⟩
 have hsz:s.size=n:=by rw [hs,hn];unfold strA;simp [ByteArray.size]
 have HSB:Hid (∀ (k:Nat) (h:k < s.size),((s[k]'h).toNat:Int)=if args.getD k 0=1 then 73 else 66):=h! (by
  subst hs
  intro k h
  have hk:k < args.length:=by rw [hsz,hn] at h;exact h
  have:(strA args)[k]'h=if args[k]=1 then (73:UInt8) else 66:=by
   have h2:k < ((args.map fun t=>if t=1 then (73:UInt8) else 66).toArray).size:=h
   have h3:((args.map fun t=>if t=1 then (73:UInt8) else 66).toArray)[k]'h2=if args[k]=1 then (73:UInt8) else 66:=by simp
   exact h3
  rw [this,aO,aC hk,dO]
  split <;> rfl)
 have HS:=h! hs
 have HA:=h! hargs
 have HN:=h! hn
 have HSZ:=h! hsz
 clear h12 hs hargs hn hsz
 go_enter Tryz.func53,Tryz.ntmps53
 go_wp2_with fail
 refine (nQ op).mono ?_
 rintro e w1 ⟨rfl,rfl⟩
 rw [<-HA.out, <-HS.out]
 go_wp2_with fail
 have hO0:Own (w.alloc (.cells #[] 3)) w.heap.size [] 3 1 (.slice (some ⟨w.heap.size,0,none⟩) 0 0) 0 []:=jO (aA _) (by simp) 1
 have HO:=h! hO0
 have HW:=h! ((Below.refl w.heap.size w).alloc (aA _) (.cells #[] 3))
 clear hO0
 generalize w.alloc _=wa at *
 go_loopw [9,10] (fun u i wr => ∃ k:Nat,k <= n/\i = .int .i64 k/\Own wr w.heap.size [] 3 1 u k ((args.take k).map (.int .i64))/\Below w.heap.size w wr) (fun _ i _=>n - (intOf i).toNat)
 case atStart=>exact ⟨0,aJ _,rfl,HO.out,HW.out⟩
 obtain ⟨k,hk,rfl,hO,hW⟩:=hrel
 obtain ⟨a,c,rfl⟩:=hO.form
 replace HO:=h! hO
 replace HW:=h! hW
 clear hO hW
 have hsz:=HSZ.out
 by_cases hlt:k < n
 ·have hks:k < s.size:=by omega
  have hsl:k < s.size/\s.size <= 3:=⟨hks,by omega⟩
  have HK:=h! (HSB.out k hks)
  have HKS:=h! (eP args k (args.getD k 0) (eZ args k (by have:=HN.out;omega)))
  have HTM:=h! (H12.out (args.getD k 0) (aG (eZ args k (by have:=HN.out;omega))))
  generalize args.getD k 0=t at *
  have hs3:=hsl.2
  clear hsl
  have HSZ2:=h! hsz
  clear hsz
  rcases HTM.out with rfl | rfl
  all_goals
   have hbt:=HK.out
   simp only [if_true,show ((2:Int)=1)=False by simp,if_false] at hbt
   first | (have hbt2:(((s[k]'hks).toNat:Int) == 73)=true:=by rw [hbt];rfl) | (have hbt2:(((s[k]'hks).toNat:Int) == 73)=false:=by rw [hbt];rfl)
   clear hbt
   go_wp2_with (at_builtin;refine fE rfl _ _ 22 3 rfl nJ rfl rfl (HO.out.alloc _) (Row.of_box (n:=1) (size:=1) (Box.new _ _ _) rfl (by omega)) (by simp [Value.oneCell']) (by unfold maxLen;omega) (by omega) (by simp;have:=HW.out.size;omega) (by intro b hb;simp at hb) ?_;intro v2 w2 hO2 _ hB2;have HO2:=h! hO2;have HB2:=h! hB2;clear hO2 hB2)
   go_roundw
   case rel=>exact ⟨k+1,hlt,by go_num,by rw [HKS.out,bC];exact HO2.out,(HW.out.alloc (by have:=HW.out.size;omega) _).trans HB2.out⟩
   simp [intOf];omega
 obtain rfl:k=n:=by omega
 rw [aH (by have:=HN.out;omega)] at HO
 have hs3:s.size <= 3:=by omega
 go_wp2
 have HNW:Hid (New 3 w wr (.slice a k c) args):=h! ⟨by rw [<-HN.out];exact HO.out.row,by have:=HN.out;omega,fun x hx=>by rcases H12.out x hx with rfl | rfl <;> exact ⟨by decide,by decide⟩⟩
 exact bodyPost_ret (v:=.tuple #[.int .i64 (shp0 op).result,.slice a k c,.bool (shp op).isSome]) (by simp [results,Tryz.results53,go_sem, *]) rfl ⟨_,rfl,by rw [<-HA.out];exact HNW.out,HW.out⟩
theorem yH {xs ys:List Int} (hl:xs.length=ys.length) (h:∀ j,j < xs.length -> xs.getD j 0=ys.getD j 0):xs=ys:=by
 apply List.ext_getElem hl
 intro i h1 h2
 have:=h i h1
 simpa [List.getD_eq_getElem?_getD,h1,h2] using this
theorem aBG {w:World} {u v:Value} {xs ys:List Int} (hu:Ints w u xs) (hv:Ints w v ys) :
  Calls Tryz.prog 30 #[u,v] w fun e w'=>e = .returned (.bool (decide (xs=ys))) /\ ∃ n,w' = w.drewN n:=by
 have hl1:=hu.le
 have hl2:=hv.le
 obtain ⟨a1,c1,b1,o1,rfl,hc1,hm1,ha1,hx⟩:=hu.parts
 obtain ⟨a2,c2,b2,o2,rfl,hc2,hm2,ha2,hy⟩:=hv.parts
 clear hu hv
 generalize H1:xs.length=n1 at *
 generalize H2:ys.length=n2 at *
 have G1:=h! H1
 have G2:=h! H2
 clear H1 H2
 by_cases hne:n1=n2
 ·subst hne
  go_enter Tryz.func30,Tryz.ntmps30
  go_wp2
  go_loopw [4,5] (fun r i wr=>r = .bool false /\ ∃ k:Nat,k <= n1/\i = .int .i64 k/\(∀ j,j < k -> xs.getD j 0=ys.getD j 0) /\ ∃ n,wr=w.drewN n) (fun _ i _=>n1 - (intOf i).toNat)
  case atStart=>exact ⟨rfl,0,by omega,rfl,by simp,0,rfl⟩
  obtain ⟨rfl,k,hk,rfl,hsame,n,rfl⟩:=hrel
  have HS:=h! hsame
  clear hsame
  by_cases hlt:k < n1
  ·obtain ⟨rfl, -⟩:=ha1 (by omega)
   obtain ⟨rfl, -⟩:=ha2 (by omega)
   have hxk:=hx k hlt
   have hyk:=hy k hlt
   clear hx hy ha1 ha2
   generalize G3:xs.getD k 0=p at *
   generalize G4:ys.getD k 0=q at *
   have H3:=h! G3
   have H4:=h! G4
   clear G3 G4
   by_cases hpq:p=q
   ·subst hpq
    go_wp2
    go_quiet (fail)
    go_wp2
    go_roundw
    case rel =>
     refine ⟨rfl,k+1,by omega,by go_num, ?_,_,rfl⟩
     intro j hj
     by_cases e:j=k
     ·subst e;rw [H3.out,H4.out]
     exact HS.out j (by omega)
    simp [intOf];omega
   go_wp2
   go_quiet (fail)
   go_wp2
   go_ret
   exact ⟨gM (decide_eq_false (fun e=>hpq (by rw [<-H3.out, <-H4.out,e]))).symm,zZ _ _ _⟩
  have hkn:k=n1:=by omega
  subst hkn
  go_wp2
  go_ret
  exact ⟨gM (decide_eq_true (yH (by rw [G1.out,G2.out]) (by rw [G1.out];exact HS.out))).symm,_,rfl⟩
 ·go_enter Tryz.func30,Tryz.ntmps30
  go_wp2
  go_ret
  exact ⟨gM (decide_eq_false (fun e=>hne (by rw [<-G1.out, <-G2.out,e]))).symm,0,rfl⟩
theorem yI {w:World} {u v:Value} {xs ys:List Int} (hu:Ints w u xs) (hv:Ints w v ys) :
  Calls Tryz.prog 30 #[u,v] w fun e w'=>e = .returned (.bool (decide (xs=ys)))/\Below w.heap.size w w':=by
 refine (aBG hu hv).mono ?_
 rintro e w' ⟨rfl,nd,rfl⟩
 exact ⟨rfl,eR (Below.refl _ _) nd⟩
def gF:FuncD:=⟨[],0,0,[⟨[],[⟨1,0,[],5⟩],⟨3,0,[],0⟩⟩]⟩
theorem pS {W:World}:Ints W (.slice none 0 0) []:=⟨Row.nil,by simp⟩
theorem jP {W:World} {bi bb:Nat} (hi:Box W bi #[.int .i64 1,.int .i64 0,.slice none 0 0,.int .i64 5]) (hb:Box W bb #[.slice none 0 0,.slice (some ⟨bi,0,none⟩) 1 1,.int .i64 3,.int .i64 0,.slice none 0 0,.int .i64 0]) :
  fJ W (.agg #[.slice none 0 0,.int .i64 0,.int .i64 0,.slice (some ⟨bb,0,none⟩) 1 1]) gF:=by
 refine ⟨_,_,rfl,pS,⟨by decide,by decide⟩,⟨by decide,by decide⟩,_,Row.of_box (n:=1) (size:=6) hb rfl (by omega),fun j x hj => ?_⟩
 obtain rfl:j=0:=by have:=(aD.1 hj).1;simp [gF] at this;omega
 simp [gF] at hj
 subst hj
 refine ⟨_,_,_,rfl,eT.nil,⟨_,Row.of_box (n:=1) (size:=4) hi rfl (by omega),fun j x hj => ?_⟩,_,rfl,pS,⟨by decide,by decide⟩,⟨by decide,by decide⟩,by decide,by decide⟩
 obtain rfl:j=0:=by have:=(aD.1 hj).1;simp at this;omega
 simp at hj
 subst hj
 exact ⟨_,rfl,pS,⟨by decide,by decide⟩,⟨by decide,by decide⟩,by decide,by decide⟩
theorem sL:eS gF=0/\aF5 gF=2:=by
 constructor <;> decide
theorem fJ.form {W:World} {v:Value} {f:FuncD} (hv:fJ W v f):∃ ap cp ab cb,v = .agg #[.slice ap f.params.length cp,.int .i64 f.arrays,.int .i64 f.cells,.slice ab f.blocks.length cb]/\Ints W (.slice ap f.params.length cp) f.params/\In64 f.arrays/\In64 f.cells/\eT gD 6 W (.slice ab f.blocks.length cb) f.blocks:=by
 obtain ⟨a,b,rfl,hp,ha,hc,hB⟩:=hv
 obtain ⟨ap,cp,rfl⟩:=hp.form
 obtain ⟨ab,cb,rfl⟩:=hB.form
 exact ⟨ap,cp,ab,cb,rfl,hp,ha,hc,hB⟩
theorem kT {x y:Int} (h:In64 (x+y)):IntKind.i64.wrap (x+y)=x+y:=by
 rw [mR];exact aEA h
theorem yJ {w:World} {v:Value} {f:FuncD} (hv:fJ w v f) (hn:f.blocks.length <= 512):Calls Tryz.prog 123 #[v] w fun e w'=>e = .returned (.int .i64 (jV f))/\Below w.heap.size w w':=by
 obtain ⟨ap,cp,ab,cb,rfl,hp,ha,hc,hB⟩:=hv.form
 have HSZ:=h! hB
 have HSF:Hid ((f.blocks.map gK).sum=jV f):=h! rfl
 obtain ⟨a,cap,b,off,hbe,hbc,hbm,hbl,hba,hx⟩:=eU hB
 cases hbe
 have HA:=h! hba
 have HX:=h! hx
 obtain ⟨n,hnn⟩ : ∃ n,n=f.blocks.length:=⟨_,rfl⟩
 rw [<-hnn] at hn HA hbc hbl ⊢
 have HN:=h! hnn
 clear hba hx hB hp ha hc hv hnn
 generalize f.arrays=ar at *
 generalize f.cells=ce at *
 generalize f.params.length=np at *
 go_enter Tryz.func123,Tryz.ntmps123
 go_upto_region 1 with (fail)
 have hA_:=(Below.refl w.heap.size w).alloc (aA _) (.cells #[.slice ap np cp,.int .i64 ar,.int .i64 ce,.slice ab n cb] 25)
 have HW:=h! hA_
 clear hA_
 have B1:=h! (Box.new w #[.slice ap np cp,.int .i64 ar,.int .i64 ce,.slice ab n cb] 25)
 generalize w.alloc (.cells #[.slice ap np cp,.int .i64 ar,.int .i64 ce,.slice ab n cb] 25)=wv at *
 obtain ⟨lB1,cB1,fB1⟩:=B1.out
 go_wp2_with fail
 go_loopw [3,4] (fun s i wr => ∃ j:Nat,j <= n/\i = .int .i64 j/\s = .int .i64 (n+(((f.blocks.take j).map gK).sum - j))/\Below w.heap.size w wr/\Box wr w.heap.size #[.slice ap np cp,.int .i64 ar,.int .i64 ce,.slice ab n cb]) (fun _ i _=>n - (intOf i).toNat)
 case atStart=>exact ⟨0,aJ _,rfl,by simp,HW.out,B1.out⟩
 obtain ⟨j,hj,rfl,rfl,hW,hB1⟩:=hrel
 clear lB1 cB1 fB1
 replace HW:=h! hW
 replace B1:=h! hB1
 clear hW hB1
 obtain ⟨lB1,cB1,fB1⟩:=B1.out
 by_cases hlt:j < n
 ·obtain ⟨rfl,hbw⟩:=HA.out (by omega)
  obtain ⟨x,hjx⟩ : ∃ x,f.blocks[j]? = some x:=⟨_,aC (by have:=HN.out;omega)⟩
  obtain ⟨ap2,ai,at_,cp2,ci,ct,hC⟩:=HX.out j x hjx
  obtain ⟨c0,c1,c2,c3,c4,c5,h6,h7,h8,h9,h10,h11⟩:=hC.below HW.out hbw
  have hs0:=pI HSZ.out j (by omega)
  have hl1:=h6.le
  have hl2:=h7.le
  have HSN:=h! (uD f.blocks j x hjx)
  have hsx:gK x=x.phis.length+x.code.length+1:=rfl
  rw [hsx] at HSN
  clear h6 h7 h8 h9 h10 h11 hC hjx hsx
  generalize ((f.blocks.take j).map gK).sum=s at *
  have e1:IntKind.i64.wrap ((x.phis.length:Int)+(x.code.length:Int))=(x.phis.length:Int)+(x.code.length:Int):=kT ⟨by omega,by omega⟩
  have e2:IntKind.i64.wrap ((n+(s - j))+((x.phis.length:Int)+(x.code.length:Int)))=(n+(s - j))+((x.phis.length:Int)+(x.code.length:Int)):=kT ⟨by omega,by omega⟩
  have hs1:=h! hs0
  go_upto_region 5 with (fail)
  go_quiet (fail)
  clear e1 e2
  go_wp2
  go_roundw
  case rel=>exact ⟨j+1,hlt,by go_num,by rw [HSN.out];congr 1;omega,eR HW.out _,B1.out.drewN _⟩
  simp [intOf];omega
 obtain rfl:j=n:=by omega
 rw [aH (by have:=HN.out;omega)]
 rw [HSF.out]
 rw [show ((j:Int)+(jV f - (j:Int)))=jV f by omega]
 go_wp2
 go_ret
 exact ⟨rfl,HW.out⟩
theorem aEV (op:Int):0 <= (shp0 op).n/\(shp0 op).n <= 4:=by
 by_cases h:op < 1 \/ 25 < op
 ·rw [yG h];simp
 obtain rfl | rfl | rfl | rfl | rfl | rfl | rfl | rfl | rfl | rfl | rfl | rfl | rfl | rfl | rfl | rfl | rfl | rfl | rfl | rfl | rfl | rfl | rfl | rfl | rfl:op=1 \/ op=2 \/ op=3 \/ op=4 \/ op=5 \/ op=6 \/ op=7 \/ op=8 \/ op=9 \/ op=10 \/ op=11 \/ op=12 \/ op=13 \/ op=14 \/ op=15 \/ op=16 \/ op=17 \/ op=18 \/ op=19 \/ op=20 \/ op=21 \/ op=22 \/ op=23 \/ op=24 \/ op=25:=by omega
 all_goals decide
theorem aBH {w:World} {ap ab:Option Addr} {np cp nb cb:Nat} {ar ce:Int} {x:InstrD} {aa:Option Addr} {ca:Nat} (har:0 <= ar/\ar <= 8) (hce:0 <= ce/\ce <= 64) :
  Calls Tryz.prog 125 #[.agg #[.slice ap np cp,.int .i64 ar,.int .i64 ce,.slice ab nb cb],.agg (tW x aa ca)] w fun e w'=>e = .returned (.bool (fW ar ce x))/\Below w.heap.size w w':=by
 have HOK:Hid (fW ar ce x=((shp x.op).isSome && (x.args.length == (shp0 x.op).args.length) && nOk ar ce (shp0 x.op).n x.n && ((shp0 x.op).result != 0 || x.id == -1))):=h! rfl
 obtain ⟨r,hr⟩ : ∃ r,r=fW ar ce x:=⟨_,rfl⟩
 rw [<-hr] at HOK ⊢
 clear hr
 obtain ⟨op,id,args,N⟩:=x
 unfold tW
 simp only at *
 obtain ⟨n,hn⟩ : ∃ n,n=args.length:=⟨_,rfl⟩
 rw [<-hn] at HOK ⊢
 clear hn
 go_enter Tryz.func125,Tryz.ntmps125
 go_upto_region 1 with (fail)
 have hA_:=(Below.refl w.heap.size w).alloc (aA _) (.cells #[.slice ap np cp,.int .i64 ar,.int .i64 ce,.slice ab nb cb] 25)
 have HW:=h! hA_
 clear hA_
 have B2:=h! (Box.new w #[.slice ap np cp,.int .i64 ar,.int .i64 ce,.slice ab nb cb] 25)
 have hz0_:(w.alloc (.cells #[.slice ap np cp,.int .i64 ar,.int .i64 ce,.slice ab nb cb] 25)).heap.size=w.heap.size+1:=World.size_alloc _ _
 generalize w.alloc (.cells #[.slice ap np cp,.int .i64 ar,.int .i64 ce,.slice ab nb cb] 25)=wv0 at *
 have hA_:=(Below.refl wv0.heap.size wv0).alloc (aA _) (.cells #[.int .i64 op,.int .i64 id,.slice aa n ca,.int .i64 N] 82)
 replace B2:=h! (B2.out.later hA_)
 replace HW:=h! (HW.out.trans (hA_.mono HW.out.size))
 clear hA_
 have B3:=h! (Box.new wv0 #[.int .i64 op,.int .i64 id,.slice aa n ca,.int .i64 N] 82)
 rw [hz0_] at B3
 clear hz0_
 generalize wv0.alloc (.cells #[.int .i64 op,.int .i64 id,.slice aa n ca,.int .i64 N] 82)=wv at *
 obtain ⟨lB2,cB2,fB2⟩:=B2.out
 obtain ⟨lB3,cB3,fB3⟩:=B3.out
 go_wp2_with fail
 refine (nQ op).mono ?_
 rintro e w1 ⟨rfl,rfl⟩
 have hkn:=aEV op
 obtain ⟨s,hs⟩ : ∃ s,s=shp0 op:=⟨_,rfl⟩
 obtain ⟨ok,ho⟩ : ∃ ok,ok=(shp op).isSome:=⟨_,rfl⟩
 rw [<-hs, <-ho] at HOK
 rw [<-hs] at hkn
 simp only [<-hs, <-ho]
 clear hs ho
 obtain ⟨res,sargs,kn⟩:=s
 simp only at *
 have hsz:(strA sargs).size=sargs.length:=by unfold strA;simp [ByteArray.size]
 generalize strA sargs=st at *
 obtain ⟨l,hl⟩ : ∃ l,l=sargs.length:=⟨_,rfl⟩
 rw [<-hl] at HOK hsz
 clear hl
 have HSZ:=h! hsz
 clear hsz
 have HKN:=h! hkn
 clear hkn
 cases ok
 ·go_wp2
  go_ret
  exact ⟨by rw [HOK.out];rfl,HW.out⟩
 ·cases hln:((n:Int) != ((st.size:Nat):Int))
  rotate_left
  ·have HLN:=h! hln
   go_wp2
   go_ret
   exact ⟨by rw [HOK.out,show (n == l)=false by (have:=HLN.out;have h2:=HSZ.out;simp at this ⊢;omega)];rfl,HW.out⟩
  have HLN:Hid ((n == l)=true):=h! (by have h2:=HSZ.out;simp at hln ⊢;omega)
  rw [HLN.out,bL,bL] at HOK
  cases hres:(res == 0)
  rotate_left
  ·cases hid:(id != -1)
   rotate_left
   ·have HR:=h! hres
    have HI:=h! hid
    go_wp2
    go_ret
    exact ⟨by rw [HOK.out,show (res != 0)=false by (have:=HR.out;simp at this;simp [this]),show (id == -1)=false by (have:=HI.out;simpa using this)];simp,HW.out⟩
   have HI:=h! hid
   have HR:=h! hres
   have HOK2:Hid (r=nOk ar ce kn N):=h! (by rw [HOK.out,show (id == -1)=true by simpa using hid];simp)
   clear HOK
   have hways:kn=0 \/ kn=1 \/ kn=2 \/ kn=3 \/ kn=4:=by have:=HKN.out;omega
   have hm1:IntKind.i64.wrap (ar - 1)=ar - 1:=kT ⟨by omega,by omega⟩
   have hm2:IntKind.i64.wrap (ce - 1)=ce - 1:=kT ⟨by omega,by omega⟩
   cases hN0:decide (0 <= N)
   all_goals
    have HN0:=h! hN0
    rcases hways with rfl | rfl | rfl | rfl | rfl
    all_goals
     go_wp2
     go_ret
     first
      | exact ⟨by rw [HOK2.out];rfl,HW.out⟩
      | exact ⟨by rw [HOK2.out];show _=Ending.returned (.bool (decide (0 <= N) && decide (N <= 0)));rw [HN0.out];rfl,HW.out⟩
      | exact ⟨by rw [HOK2.out];show _=Ending.returned (.bool (decide (0 <= N) && decide (N <= 1)));rw [HN0.out];rfl,HW.out⟩
      | exact ⟨by rw [HOK2.out];show _=Ending.returned (.bool (decide (0 <= N) && decide (N <= ar - 1)));rw [HN0.out];rfl,HW.out⟩
      | exact ⟨by rw [HOK2.out];show _=Ending.returned (.bool (decide (0 <= N) && decide (N <= ce - 1)));rw [HN0.out];rfl,HW.out⟩
  have HR:=h! hres
  have HOK2:Hid (r=nOk ar ce kn N):=h! (by rw [HOK.out,show (res != 0)=true by (simp at hres;simpa using hres)];simp)
  clear HOK
  have hways:kn=0 \/ kn=1 \/ kn=2 \/ kn=3 \/ kn=4:=by have:=HKN.out;omega
  have hm1:IntKind.i64.wrap (ar - 1)=ar - 1:=kT ⟨by omega,by omega⟩
  have hm2:IntKind.i64.wrap (ce - 1)=ce - 1:=kT ⟨by omega,by omega⟩
  cases hN0:decide (0 <= N)
  all_goals
   have HN0:=h! hN0
   rcases hways with rfl | rfl | rfl | rfl | rfl
   all_goals
    go_wp2
    go_ret
    first
     | exact ⟨by rw [HOK2.out];rfl,HW.out⟩
     | exact ⟨by rw [HOK2.out];show _=Ending.returned (.bool (decide (0 <= N) && decide (N <= 0)));rw [HN0.out];rfl,HW.out⟩
     | exact ⟨by rw [HOK2.out];show _=Ending.returned (.bool (decide (0 <= N) && decide (N <= 1)));rw [HN0.out];rfl,HW.out⟩
     | exact ⟨by rw [HOK2.out];show _=Ending.returned (.bool (decide (0 <= N) && decide (N <= ar - 1)));rw [HN0.out];rfl,HW.out⟩
     | exact ⟨by rw [HOK2.out];show _=Ending.returned (.bool (decide (0 <= N) && decide (N <= ce - 1)));rw [HN0.out];rfl,HW.out⟩
end Go.Proofs.YtagabiidbbhhmaaGreat
