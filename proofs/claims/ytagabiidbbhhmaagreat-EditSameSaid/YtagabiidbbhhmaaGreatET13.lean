/- Part 13. -/
import Derived.Test.YtagabiidbbhhmaaGreatET12
namespace Go.Proofs.YtagabiidbbhhmaaGreat
set_option maxHeartbeats 6400000
set_option linter.all false
set_option maxRecDepth 100000
open Go.RowKit
def strA(l:List Int):ByteArray:=⟨(l.map fun t=>if t=1 then (73:UInt8) else 66).toArray⟩
def fY(op:Int)(w:World)(e:Ending)(w':World):Prop:=e=.returned (.tuple #[.string (strA (shp0 op).args),.int .i64 (shp0 op).result,.int .i64 (shp0 op).n,.bool (shp op).isSome])/\w=w'
theorem aFT{w:World}:Calls Tryz.prog 93 #[.int .i64 1] w (fY 1 w):=by go_enter Tryz.func93,Tryz.ntmps93;go_wp2;exact bodyPost_ret (v:=.tuple #[.string ⟨#[]⟩,.int .i64 1,.int .i64 1,.bool true]) (by simp[results,Tryz.results93,go_sem, *]) rfl ⟨rfl,rfl⟩
theorem aFU{w:World}:Calls Tryz.prog 93 #[.int .i64 2] w (fY 2 w):=by go_enter Tryz.func93,Tryz.ntmps93;go_wp2;exact bodyPost_ret (v:=.tuple #[.string ⟨#[]⟩,.int .i64 2,.int .i64 2,.bool true]) (by simp[results,Tryz.results93,go_sem, *]) rfl ⟨rfl,rfl⟩
theorem aFV{w:World}:Calls Tryz.prog 93 #[.int .i64 3] w (fY 3 w):=by go_enter Tryz.func93,Tryz.ntmps93;go_wp2;exact bodyPost_ret (v:=.tuple #[.string ⟨#[73,73]⟩,.int .i64 1,.int .i64 0,.bool true]) (by simp[results,Tryz.results93,go_sem, *]) rfl ⟨rfl,rfl⟩
theorem aFW{w:World}:Calls Tryz.prog 93 #[.int .i64 4] w (fY 4 w):=by go_enter Tryz.func93,Tryz.ntmps93;go_wp2;exact bodyPost_ret (v:=.tuple #[.string ⟨#[73,73]⟩,.int .i64 1,.int .i64 0,.bool true]) (by simp[results,Tryz.results93,go_sem, *]) rfl ⟨rfl,rfl⟩
theorem aFX{w:World}:Calls Tryz.prog 93 #[.int .i64 5] w (fY 5 w):=by go_enter Tryz.func93,Tryz.ntmps93;go_wp2;exact bodyPost_ret (v:=.tuple #[.string ⟨#[73,73]⟩,.int .i64 1,.int .i64 0,.bool true]) (by simp[results,Tryz.results93,go_sem, *]) rfl ⟨rfl,rfl⟩
theorem aFY{w:World}:Calls Tryz.prog 93 #[.int .i64 6] w (fY 6 w):=by go_enter Tryz.func93,Tryz.ntmps93;go_wp2;exact bodyPost_ret (v:=.tuple #[.string ⟨#[73,73]⟩,.int .i64 1,.int .i64 0,.bool true]) (by simp[results,Tryz.results93,go_sem, *]) rfl ⟨rfl,rfl⟩
theorem aFZ{w:World}:Calls Tryz.prog 93 #[.int .i64 7] w (fY 7 w):=by go_enter Tryz.func93,Tryz.ntmps93;go_wp2;exact bodyPost_ret (v:=.tuple #[.string ⟨#[73,73]⟩,.int .i64 1,.int .i64 0,.bool true]) (by simp[results,Tryz.results93,go_sem, *]) rfl ⟨rfl,rfl⟩
theorem aF0{w:World}:Calls Tryz.prog 93 #[.int .i64 8] w (fY 8 w):=by go_enter Tryz.func93,Tryz.ntmps93;go_wp2;exact bodyPost_ret (v:=.tuple #[.string ⟨#[73,73]⟩,.int .i64 1,.int .i64 0,.bool true]) (by simp[results,Tryz.results93,go_sem, *]) rfl ⟨rfl,rfl⟩
theorem aF1{w:World}:Calls Tryz.prog 93 #[.int .i64 9] w (fY 9 w):=by go_enter Tryz.func93,Tryz.ntmps93;go_wp2;exact bodyPost_ret (v:=.tuple #[.string ⟨#[73,73]⟩,.int .i64 1,.int .i64 0,.bool true]) (by simp[results,Tryz.results93,go_sem, *]) rfl ⟨rfl,rfl⟩
theorem aB8{w:World}:Calls Tryz.prog 93 #[.int .i64 10] w (fY 10 w):=by go_enter Tryz.func93,Tryz.ntmps93;go_wp2;exact bodyPost_ret (v:=.tuple #[.string ⟨#[73,73]⟩,.int .i64 1,.int .i64 0,.bool true]) (by simp[results,Tryz.results93,go_sem, *]) rfl ⟨rfl,rfl⟩
theorem aB9{w:World}:Calls Tryz.prog 93 #[.int .i64 11] w (fY 11 w):=by go_enter Tryz.func93,Tryz.ntmps93;go_wp2;exact bodyPost_ret (v:=.tuple #[.string ⟨#[73,73]⟩,.int .i64 1,.int .i64 0,.bool true]) (by simp[results,Tryz.results93,go_sem, *]) rfl ⟨rfl,rfl⟩
theorem aCA{w:World}:Calls Tryz.prog 93 #[.int .i64 12] w (fY 12 w):=by go_enter Tryz.func93,Tryz.ntmps93;go_wp2;exact bodyPost_ret (v:=.tuple #[.string ⟨#[73,73]⟩,.int .i64 1,.int .i64 0,.bool true]) (by simp[results,Tryz.results93,go_sem, *]) rfl ⟨rfl,rfl⟩
theorem aCB{w:World}:Calls Tryz.prog 93 #[.int .i64 13] w (fY 13 w):=by go_enter Tryz.func93,Tryz.ntmps93;go_wp2;exact bodyPost_ret (v:=.tuple #[.string ⟨#[73,73]⟩,.int .i64 2,.int .i64 0,.bool true]) (by simp[results,Tryz.results93,go_sem, *]) rfl ⟨rfl,rfl⟩
theorem aCC{w:World}:Calls Tryz.prog 93 #[.int .i64 14] w (fY 14 w):=by go_enter Tryz.func93,Tryz.ntmps93;go_wp2;exact bodyPost_ret (v:=.tuple #[.string ⟨#[73,73]⟩,.int .i64 2,.int .i64 0,.bool true]) (by simp[results,Tryz.results93,go_sem, *]) rfl ⟨rfl,rfl⟩
theorem aCD{w:World}:Calls Tryz.prog 93 #[.int .i64 15] w (fY 15 w):=by go_enter Tryz.func93,Tryz.ntmps93;go_wp2;exact bodyPost_ret (v:=.tuple #[.string ⟨#[73,73]⟩,.int .i64 2,.int .i64 0,.bool true]) (by simp[results,Tryz.results93,go_sem, *]) rfl ⟨rfl,rfl⟩
theorem aCE{w:World}:Calls Tryz.prog 93 #[.int .i64 16] w (fY 16 w):=by go_enter Tryz.func93,Tryz.ntmps93;go_wp2;exact bodyPost_ret (v:=.tuple #[.string ⟨#[66]⟩,.int .i64 2,.int .i64 0,.bool true]) (by simp[results,Tryz.results93,go_sem, *]) rfl ⟨rfl,rfl⟩
theorem aCF{w:World}:Calls Tryz.prog 93 #[.int .i64 17] w (fY 17 w):=by go_enter Tryz.func93,Tryz.ntmps93;go_wp2;exact bodyPost_ret (v:=.tuple #[.string ⟨#[66,73,73]⟩,.int .i64 1,.int .i64 0,.bool true]) (by simp[results,Tryz.results93,go_sem, *]) rfl ⟨rfl,rfl⟩
theorem aCG{w:World}:Calls Tryz.prog 93 #[.int .i64 18] w (fY 18 w):=by go_enter Tryz.func93,Tryz.ntmps93;go_wp2;exact bodyPost_ret (v:=.tuple #[.string ⟨#[]⟩,.int .i64 1,.int .i64 3,.bool true]) (by simp[results,Tryz.results93,go_sem, *]) rfl ⟨rfl,rfl⟩
theorem aCH{w:World}:Calls Tryz.prog 93 #[.int .i64 19] w (fY 19 w):=by go_enter Tryz.func93,Tryz.ntmps93;go_wp2;exact bodyPost_ret (v:=.tuple #[.string ⟨#[73]⟩,.int .i64 1,.int .i64 3,.bool true]) (by simp[results,Tryz.results93,go_sem, *]) rfl ⟨rfl,rfl⟩
theorem aCI{w:World}:Calls Tryz.prog 93 #[.int .i64 21] w (fY 21 w):=by go_enter Tryz.func93,Tryz.ntmps93;go_wp2;exact bodyPost_ret (v:=.tuple #[.string ⟨#[73]⟩,.int .i64 1,.int .i64 3,.bool true]) (by simp[results,Tryz.results93,go_sem, *]) rfl ⟨rfl,rfl⟩
theorem aCJ{w:World}:Calls Tryz.prog 93 #[.int .i64 20] w (fY 20 w):=by go_enter Tryz.func93,Tryz.ntmps93;go_wp2;exact bodyPost_ret (v:=.tuple #[.string ⟨#[73,73]⟩,.int .i64 0,.int .i64 3,.bool true]) (by simp[results,Tryz.results93,go_sem, *]) rfl ⟨rfl,rfl⟩
theorem aCK{w:World}:Calls Tryz.prog 93 #[.int .i64 22] w (fY 22 w):=by go_enter Tryz.func93,Tryz.ntmps93;go_wp2;exact bodyPost_ret (v:=.tuple #[.string ⟨#[73,73]⟩,.int .i64 0,.int .i64 3,.bool true]) (by simp[results,Tryz.results93,go_sem, *]) rfl ⟨rfl,rfl⟩
theorem aCL{w:World}:Calls Tryz.prog 93 #[.int .i64 23] w (fY 23 w):=by go_enter Tryz.func93,Tryz.ntmps93;go_wp2;exact bodyPost_ret (v:=.tuple #[.string ⟨#[73]⟩,.int .i64 0,.int .i64 0,.bool true]) (by simp[results,Tryz.results93,go_sem, *]) rfl ⟨rfl,rfl⟩
theorem aCM{w:World}:Calls Tryz.prog 93 #[.int .i64 24] w (fY 24 w):=by go_enter Tryz.func93,Tryz.ntmps93;go_wp2;exact bodyPost_ret (v:=.tuple #[.string ⟨#[]⟩,.int .i64 1,.int .i64 4,.bool true]) (by simp[results,Tryz.results93,go_sem, *]) rfl ⟨rfl,rfl⟩
theorem aCN{w:World}:Calls Tryz.prog 93 #[.int .i64 25] w (fY 25 w):=by go_enter Tryz.func93,Tryz.ntmps93;go_wp2;exact bodyPost_ret (v:=.tuple #[.string ⟨#[73]⟩,.int .i64 0,.int .i64 4,.bool true]) (by simp[results,Tryz.results93,go_sem, *]) rfl ⟨rfl,rfl⟩
theorem aCO{w:World}{op:Int}(h:op<1\/25<op):Calls Tryz.prog 93 #[.int .i64 op] w (fY op w):=by
 have HS:=h! (show shp op=none by unfold shp;repeat (rw[if_neg (by omega)]));have e1:(op == 1)=false:=by simp;omega
 have e2:(op == 2)=false:=by simp;omega
 have e3:(op == 3)=false:=by simp;omega
 have e4:(op == 4)=false:=by simp;omega
 have e5:(op == 5)=false:=by simp;omega
 have e6:(op == 6)=false:=by simp;omega
 have e7:(op == 7)=false:=by simp;omega
 have e8:(op == 8)=false:=by simp;omega
 have e9:(op == 9)=false:=by simp;omega
 have e10:(op == 10)=false:=by simp;omega
 have e11:(op == 11)=false:=by simp;omega
 have e12:(op == 12)=false:=by simp;omega
 have e13:(op == 13)=false:=by simp;omega
 have e14:(op == 14)=false:=by simp;omega
 have e15:(op == 15)=false:=by simp;omega
 have e16:(op == 16)=false:=by simp;omega
 have e17:(op == 17)=false:=by simp;omega
 have e18:(op == 18)=false:=by simp;omega
 have e19:(op == 19)=false:=by simp;omega
 have e20:(op == 20)=false:=by simp;omega
 have e21:(op == 21)=false:=by simp;omega
 have e22:(op == 22)=false:=by simp;omega
 have e23:(op == 23)=false:=by simp;omega
 have e24:(op == 24)=false:=by simp;omega
 have e25:(op == 25)=false:=by simp;omega
 clear h;go_enter Tryz.func93,Tryz.ntmps93;go_wp2;exact bodyPost_ret (v:=.tuple #[.string ⟨#[]⟩,.int .i64 0,.int .i64 0,.bool false]) (by simp[results,Tryz.results93,go_sem, *]) rfl ⟨by unfold shp0;rw[HS.out];rfl,rfl⟩
theorem uQ{w:World}(op:Int):Calls Tryz.prog 93 #[.int .i64 op] w (fY op w):=by
 by_cases h:op<1\/25<op
 ·exact aCO h
 obtain rfl|rfl|rfl|rfl|rfl|rfl|rfl|rfl|rfl|rfl|rfl|rfl|rfl|rfl|rfl|rfl|rfl|rfl|rfl|rfl|rfl|rfl|rfl|rfl|rfl:op=1\/op=2\/op=3\/op=4\/op=5\/op=6\/op=7\/op=8\/op=9\/op=10\/op=11\/op=12\/op=13\/op=14\/op=15\/op=16\/op=17\/op=18\/op=19\/op=20\/op=21\/op=22\/op=23\/op=24\/op=25:=by omega
 ·exact aFT
 ·exact aFU
 ·exact aFV
 ·exact aFW
 ·exact aFX
 ·exact aFY
 ·exact aFZ
 ·exact aF0
 ·exact aF1
 ·exact aB8
 ·exact aB9
 ·exact aCA
 ·exact aCB
 ·exact aCC
 ·exact aCD
 ·exact aCE
 ·exact aCF
 ·exact aCG
 ·exact aCH
 ·exact aCJ
 ·exact aCI
 ·exact aCK
 ·exact aCL
 ·exact aCM
 exact aCN
theorem aF2{op:Int}(h:op<1\/25<op):shp0 op=⟨0,[],0⟩:=by
 have HS:shp op=none:=by unfold shp;repeat (rw[if_neg (by omega)])
 unfold shp0;rw[HS];rfl
theorem sM(op:Int):(shp0 op).args.length<=3/\(∀t∈(shp0 op).args,t=1\/t=2)/\0<=(shp0 op).result/\(shp0 op).result<=2:=by
 by_cases h:op<1\/25<op
 ·rw[aF2 h];simp
 obtain rfl|rfl|rfl|rfl|rfl|rfl|rfl|rfl|rfl|rfl|rfl|rfl|rfl|rfl|rfl|rfl|rfl|rfl|rfl|rfl|rfl|rfl|rfl|rfl|rfl:op=1\/op=2\/op=3\/op=4\/op=5\/op=6\/op=7\/op=8\/op=9\/op=10\/op=11\/op=12\/op=13\/op=14\/op=15\/op=16\/op=17\/op=18\/op=19\/op=20\/op=21\/op=22\/op=23\/op=24\/op=25:=by omega
 all_goals decide
theorem oN{w:World}{T:TypeId}{B:Nat}{bs:List Nat}(hB:B<=w.heap.size)(hbs:∀b∈bs,b≠w.heap.size)(size:Nat):Own (w.alloc (.cells #[] T)) B bs T size (.slice (some ⟨w.heap.size,0,none⟩) 0 0) 0 []:=
 ⟨⟨by simp,.inr ⟨w.heap.size,0,#[],by simp,hB,by(show(w.heap.push _)[w.heap.size]? =_);simp,by simp,by unfold maxLen;omega,by simp,by simp⟩⟩,fun g hg hm=>by cases hg;exact hbs _ hm rfl⟩
def aIC(op:Int)(w:World)(e:Ending)(w':World):Prop:=∃u,e=.returned (.tuple #[.int .i64 (shp0 op).result,u,.bool (shp op).isSome])/\New 3 w w' u (shp0 op).args/\Below w.heap.size w w'
theorem aK1{w:World}(op:Int):Calls Tryz.prog 53 #[.int .i64 op] w (aIC op w):=by
 obtain⟨args,aa⟩:∃args,args=(shp0 op).args:=⟨_,rfl⟩;obtain⟨n,hn⟩:∃n,n=args.length:=⟨_,rfl⟩;have ad:=sM op;rw[<-aa,<-hn]at ad;have ai:=h! ad.2.1;have hn3:=ad.1;obtain⟨s,hs⟩:∃s,s=strA args:=⟨_,rfl⟩;have ab:s.size=n:=by rw[hs,hn];unfold strA;simp[ByteArray.size]
 have ak:Hid (∀(k:Nat) (h:k<s.size),((s[k]'h).toNat:Int)=if args.getD k 0=1 then 73 else 66):=h! (by
  subst hs;intro k h;have hk:k<args.length:=by rw[ab,hn]at h;exact h
  have:(strA args)[k]'h=if args[k]=1 then (73:UInt8) else 66:=by
   have h2:k<((args.map fun t=>if t=1 then (73:UInt8) else 66).toArray).size:=h;have h3:((args.map fun t=>if t=1 then (73:UInt8) else 66).toArray)[k]'h2=if args[k]=1 then (73:UInt8) else 66:=by simp
   exact h3
  rw[this,aH,aA hk,dI];split<;>rfl)
 have HS:=h! hs;have HA:=h! aa;have HN:=h! hn;have ar:=h! ab;clear ad hs aa hn ab;go_enter Tryz.func53,Tryz.ntmps53;go_wp2_with fail;refine(uQ op).mono ?_;rintro e w1 ⟨rfl,rfl⟩;rw[<-HA.out,<-HS.out];go_wp2_with fail;have ag:Own (w.alloc (.cells #[] 3)) w.heap.size [] 3 1 (.slice (some ⟨w.heap.size,0,none⟩) 0 0) 0 []:=oN (aC _) (by simp) 1;have HO:=h! ag;have HW:=h! ((Below.refl w.heap.size w).alloc (aC _) (.cells #[] 3));clear ag;generalize w.alloc _=wa at*;go_loopw [9,10] (fun u i wr=>∃k:Nat,k<=n/\i=.int .i64 k/\Own wr w.heap.size [] 3 1 u k ((args.take k).map (.int .i64))/\Below w.heap.size w wr) (fun _ i _=>n - (intOf i).toNat)
 case atStart=>exact⟨0,aL _,rfl,HO.out,HW.out⟩
 obtain⟨k,hk,rfl,hO,hW⟩:=hrel;obtain⟨a,c,rfl⟩:=hO.form;replace HO:=h! hO;replace HW:=h! hW;clear hO hW;have ab:=ar.out;by_cases hlt:k<n
 ·have ae:k<s.size:=by omega
  have aj:k<s.size/\s.size<=3:=⟨ae,by omega⟩;have HK:=h! (ak k ae);have aq:=h! (fR args k (args.getD k 0) (gF args k (by have:=HN.out;omega)));have am:=h! (ai (args.getD k 0) (aG (gF args k (by have:=HN.out;omega))));generalize args.getD k 0=t at*;have ap:=aj.2;clear aj;have HSZ2:=h! ab;clear ab;rcases am.out with rfl|rfl;all_goals
   have ac:=HK.out;simp only[if_true,show((2:Int)=1)=False by simp,if_false]at ac;first|(have hbt2:(((s[k]'ae).toNat:Int) == 73)=true:=by rw[ac];rfl)|(have hbt2:(((s[k]'ae).toNat:Int) == 73)=false:=by rw[ac];rfl)
   clear ac;go_wp2_with (at_builtin;refine iL rfl _ _ 22 3 rfl oW rfl rfl (HO.alloc _) (Row.of_box (n:=1) (size:=1) (Box.new _ _ _) rfl (by omega)) (by simp[Value.oneCell']) (by unfold maxLen;omega) (by omega) (by simp;have:=HW.size;omega) (by intro b hb;simp at hb) ?_;intro v2 w2 af _ ah;have an:=h! af;have ao:=h! ah;clear af ah);go_roundw
   case rel=>exact⟨k+1,hlt,by go_num,by rw[aq.out,bG];exact an,(HW.alloc (by have:=HW.size;omega) _).trans ao.out⟩
   simp[intOf];omega
 obtain rfl:k=n:=by omega
 rw[aI (by have:=HN.out;omega)]at HO;have ap:s.size<=3:=by omega
 go_wp2;have al:Hid (New 3 w wr (.slice a k c) args):=h! ⟨by rw[<-HN.out];exact HO.row,by have:=HN.out;omega,fun x hx=>by rcases ai.out x hx with rfl|rfl<;>exact⟨by decide,by decide⟩⟩;exact bodyPost_ret (v:=.tuple #[.int .i64 (shp0 op).result,.slice a k c,.bool (shp op).isSome]) (by simp[results,Tryz.results53,go_sem, *]) rfl ⟨_,rfl,by rw[<-HA.out];exact al,HW.out⟩
theorem aF3{xs ys:List Int}(hl:xs.length=ys.length)(h:∀j,j<xs.length->xs.getD j 0=ys.getD j 0):xs=ys:=by apply List.ext_getElem hl;intro i h1 h2;have:=h i h1;simpa [List.getD_eq_getElem?_getD,h1,h2]using this
theorem zW{w:World}{u v:Value}{xs ys:List Int}(hu:Ints w u xs)(hv:Ints w v ys):
  Calls Tryz.prog 30 #[u,v] w fun e w'=>e=.returned (.bool (decide (xs=ys)))/\∃n,w'=w.drewN n:=by
 have hl1:=hu.le;have hl2:=hv.le;obtain⟨a1,c1,b1,o1,rfl,hc1,hm1,ab,hx⟩:=hu.parts;obtain⟨a2,c2,b2,o2,rfl,hc2,hm2,ac,hy⟩:=hv.parts;clear hu hv;generalize H1:xs.length=n1 at*;generalize H2:ys.length=n2 at*;have G1:=h! H1;have G2:=h! H2;clear H1 H2;by_cases hne:n1=n2
 ·subst hne;go_enter Tryz.func30,Tryz.ntmps30;go_wp2;go_loopw [4,5] (fun r i wr=>r=.bool false/\∃k:Nat,k<=n1/\i=.int .i64 k/\(∀j,j<k->xs.getD j 0=ys.getD j 0)/\∃n,wr=w.drewN n) (fun _ i _=>n1 - (intOf i).toNat)
  case atStart=>exact⟨rfl,0,by omega,rfl,by simp,0,rfl⟩
  obtain⟨rfl,k,hk,rfl,aa,n,rfl⟩:=hrel;have HS:=h! aa;clear aa;by_cases hlt:k<n1
  ·obtain⟨rfl,-⟩:=ab (by omega);obtain⟨rfl,-⟩:=ac (by omega);have hxk:=hx k hlt;have hyk:=hy k hlt;clear hx hy ab ac;generalize G3:xs.getD k 0=p at*;generalize G4:ys.getD k 0=q at*;have H3:=h! G3;have H4:=h! G4;clear G3 G4;by_cases hpq:p=q
   ·subst hpq;go_wp2;go_quiet (fail);go_wp2;go_roundw
    case rel=>
     refine⟨rfl,k+1,by omega,by go_num, ?_,_,rfl⟩;intro j hj;by_cases e:j=k
     ·subst e;rw[H3.out,H4.out]
     exact HS j (by omega)
    simp[intOf];omega
   go_wp2;go_quiet (fail);go_wp2;go_ret;exact⟨iD (decide_eq_false (fun e=>hpq (by rw[<-H3.out,<-H4.out,e]))).symm,aFK _ _ _⟩
  have ad:k=n1:=by omega
  subst ad;go_wp2;go_ret;exact⟨iD (decide_eq_true (aF3 (by rw[G1.out,G2.out]) (by rw[G1.out];exact HS))).symm,_,rfl⟩
 ·go_enter Tryz.func30,Tryz.ntmps30;go_wp2;go_ret;exact⟨iD (decide_eq_false (fun e=>hne (by rw[<-G1.out,<-G2.out,e]))).symm,0,rfl⟩
theorem aCP{w:World}{u v:Value}{xs ys:List Int}(hu:Ints w u xs)(hv:Ints w v ys):
  Calls Tryz.prog 30 #[u,v] w fun e w'=>e=.returned (.bool (decide (xs=ys)))/\Below w.heap.size w w':=by
 refine(zW hu hv).mono ?_;rintro e w' ⟨rfl,nd,rfl⟩;exact⟨rfl,fS (Below.refl _ _) nd⟩
def iP:FuncD:=⟨[],0,0,[⟨[],[⟨1,0,[],5⟩],⟨3,0,[],0⟩⟩]⟩
theorem uR{W:World}:Ints W (.slice none 0 0) []:=⟨Row.nil,by simp⟩
theorem mM{W:World}{bi bb:Nat}(hi:Box W bi #[.int .i64 1,.int .i64 0,.slice none 0 0,.int .i64 5])(hb:Box W bb #[.slice none 0 0,.slice (some ⟨bi,0,none⟩) 1 1,.int .i64 3,.int .i64 0,.slice none 0 0,.int .i64 0]):
  gS W (.agg #[.slice none 0 0,.int .i64 0,.int .i64 0,.slice (some ⟨bb,0,none⟩) 1 1]) iP:=by
 refine⟨_,_,rfl,uR,⟨by decide,by decide⟩,⟨by decide,by decide⟩,_,Row.of_box (n:=1) (size:=6) hb rfl (by omega),fun j x hj=> ?_⟩;obtain rfl:j=0:=by have:=(aD.1 hj).1;simp[iP]at this;omega
 simp[iP]at hj;subst hj;refine⟨_,_,_,rfl,fV.nil,⟨_,Row.of_box (n:=1) (size:=4) hi rfl (by omega),fun j x hj=> ?_⟩,_,rfl,uR,⟨by decide,by decide⟩,⟨by decide,by decide⟩,by decide,by decide⟩;obtain rfl:j=0:=by have:=(aD.1 hj).1;simp at this;omega
 simp at hj;subst hj;exact⟨_,rfl,uR,⟨by decide,by decide⟩,⟨by decide,by decide⟩,by decide,by decide⟩
theorem yJ:fO iP=0/\aNC iP=2:=by constructor<;>decide
theorem gS.form{W:World}{v:Value}{f:FuncD}(hv:gS W v f):∃ap cp ab cb,v=.agg #[.slice ap f.params.length cp,.int .i64 f.arrays,.int .i64 f.cells,.slice ab f.blocks.length cb]/\Ints W (.slice ap f.params.length cp) f.params/\In64 f.arrays/\In64 f.cells/\fV iI 6 W (.slice ab f.blocks.length cb) f.blocks:=by obtain⟨a,b,rfl,hp,ha,hc,hB⟩:=hv;obtain⟨ap,cp,rfl⟩:=hp.form;obtain⟨ab,cb,rfl⟩:=hB.form;exact⟨ap,cp,ab,cb,rfl,hp,ha,hc,hB⟩
theorem nK{x y:Int}(h:In64 (x+y)):IntKind.i64.wrap (x+y)=x+y:=by rw[jS];exact aKS h
theorem aF4{w:World}{v:Value}{f:FuncD}(hv:gS w v f)(hn:f.blocks.length<=512):Calls Tryz.prog 123 #[v] w fun e w'=>e=.returned (.int .i64 (mE f))/\Below w.heap.size w w':=by
 obtain⟨ap,cp,ab,cb,rfl,hp,ha,hc,hB⟩:=hv.form;have ba:=h! hB;have aq:Hid ((f.blocks.map iB).sum=mE f):=h! rfl;obtain⟨a,cap,b,off,ax,ay,hbm,an,ad,hx⟩:=fW hB
 cases ax;have HA:=h! ad;have HX:=h! hx;obtain⟨n,ac⟩:∃n,n=f.blocks.length:=⟨_,rfl⟩;rw[<-ac]at hn HA ay an⊢;have HN:=h! ac;clear ad hx hB hp ha hc hv ac;generalize f.arrays=ar at*;generalize f.cells=ce at*;generalize f.params.length=np at*;go_enter Tryz.func123,Tryz.ntmps123;go_upto_region 1 with(fail);have ak:=(Below.refl w.heap.size w).alloc (aC _) (.cells #[.slice ap np cp,.int .i64 ar,.int .i64 ce,.slice ab n cb] 25);have HW:=h! ak;clear ak;have B1:=h! (Box.new w #[.slice ap np cp,.int .i64 ar,.int .i64 ce,.slice ab n cb] 25);generalize w.alloc (.cells #[.slice ap np cp,.int .i64 ar,.int .i64 ce,.slice ab n cb] 25)=wv at*;obtain⟨aj,ae,af⟩:=B1.out;go_wp2_with fail;go_loopw [3,4] (fun s i wr=>∃j:Nat,j<=n/\i=.int .i64 j/\s=.int .i64 (n+(((f.blocks.take j).map iB).sum - j))/\Below w.heap.size w wr/\Box wr w.heap.size #[.slice ap np cp,.int .i64 ar,.int .i64 ce,.slice ab n cb]) (fun _ i _=>n - (intOf i).toNat)
 case atStart=>exact⟨0,aL _,rfl,by simp,HW.out,B1.out⟩
 obtain⟨j,hj,rfl,rfl,hW,ag⟩:=hrel;clear aj ae af;replace HW:=h! hW;replace B1:=h! ag;clear hW ag;obtain⟨aj,ae,af⟩:=B1.out;by_cases hlt:j<n
 ·obtain⟨rfl,am⟩:=HA.out (by omega);obtain⟨x,aa⟩:∃x,f.blocks[j]? =some x:=⟨_,aA (by have:=HN.out;omega)⟩;obtain⟨ap2,ai,at_,cp2,ci,ct,hC⟩:=HX.out j x aa;obtain⟨c0,c1,c2,c3,c4,c5,h6,h7,h8,h9,ao,aw⟩:=hC.below HW.out am;have az:=tQ ba.out j (by omega);have hl1:=h6.le;have hl2:=h7.le;have al:=h! (zV f.blocks j x aa);have ah:iB x=x.phis.length+x.code.length+1:=rfl;rw[ah]at al;clear h6 h7 h8 h9 ao aw hC aa ah;generalize ((f.blocks.take j).map iB).sum=s at*;have e1:IntKind.i64.wrap ((x.phis.length:Int)+(x.code.length:Int))=(x.phis.length:Int)+(x.code.length:Int):=nK ⟨by omega,by omega⟩;have e2:IntKind.i64.wrap ((n+(s - j))+((x.phis.length:Int)+(x.code.length:Int)))=(n+(s - j))+((x.phis.length:Int)+(x.code.length:Int)):=nK ⟨by omega,by omega⟩;have hs1:=h! az;go_upto_region 5 with(fail);go_quiet (fail);clear e1 e2;go_wp2;go_roundw
  case rel=>exact⟨j+1,hlt,by go_num,by rw[al.out];congr 1;omega,fS HW.out _,B1.drewN _⟩
  simp[intOf];omega
 obtain rfl:j=n:=by omega
 rw[aI (by have:=HN.out;omega)];rw[aq.out];rw[show((j:Int)+(mE f - (j:Int)))=mE f by omega];go_wp2;go_ret;exact⟨rfl,HW.out⟩
theorem aMV(op:Int):0<=(shp0 op).n/\(shp0 op).n<=4:=by
 by_cases h:op<1\/25<op
 ·rw[aF2 h];simp
 obtain rfl|rfl|rfl|rfl|rfl|rfl|rfl|rfl|rfl|rfl|rfl|rfl|rfl|rfl|rfl|rfl|rfl|rfl|rfl|rfl|rfl|rfl|rfl|rfl|rfl:op=1\/op=2\/op=3\/op=4\/op=5\/op=6\/op=7\/op=8\/op=9\/op=10\/op=11\/op=12\/op=13\/op=14\/op=15\/op=16\/op=17\/op=18\/op=19\/op=20\/op=21\/op=22\/op=23\/op=24\/op=25:=by omega
 all_goals decide
theorem aID{w:World}{ap ab:Option Addr}{np cp nb cb:Nat}{ar ce:Int}{x:InstrD}{aa:Option Addr}{ca:Nat}(har:0<=ar/\ar<=8)(hce:0<=ce/\ce<=64):
  Calls Tryz.prog 125 #[.agg #[.slice ap np cp,.int .i64 ar,.int .i64 ce,.slice ab nb cb],.agg (zL x aa ca)] w fun e w'=>e=.returned (.bool (gR ar ce x))/\Below w.heap.size w w':=by
 have ae:Hid (gR ar ce x=((shp x.op).isSome&&(x.args.length == (shp0 x.op).args.length)&&nOk ar ce (shp0 x.op).n x.n&&((shp0 x.op).result != 0||x.id == -1))):=h! rfl;obtain⟨r,hr⟩:∃r,r=gR ar ce x:=⟨_,rfl⟩;rw[<-hr]at ae⊢;clear hr;obtain⟨op,id,al,N⟩:=x;unfold zL;simp only at*;obtain⟨n,hn⟩:∃n,n=al.length:=⟨_,rfl⟩;rw[<-hn]at ae⊢;clear hn;go_enter Tryz.func125,Tryz.ntmps125;go_upto_region 1 with(fail);have ah:=(Below.refl w.heap.size w).alloc (aC _) (.cells #[.slice ap np cp,.int .i64 ar,.int .i64 ce,.slice ab nb cb] 25);have HW:=h! ah;clear ah;have B2:=h! (Box.new w #[.slice ap np cp,.int .i64 ar,.int .i64 ce,.slice ab nb cb] 25);have ai:(w.alloc (.cells #[.slice ap np cp,.int .i64 ar,.int .i64 ce,.slice ab nb cb] 25)).heap.size=w.heap.size+1:=World.size_alloc _ _;generalize w.alloc (.cells #[.slice ap np cp,.int .i64 ar,.int .i64 ce,.slice ab nb cb] 25)=aj at*;have ah:=(Below.refl aj.heap.size aj).alloc (aC _) (.cells #[.int .i64 op,.int .i64 id,.slice aa n ca,.int .i64 N] 82);replace B2:=h! (B2.later ah);replace HW:=w! HW ah;clear ah;have B3:=h! (Box.new aj #[.int .i64 op,.int .i64 id,.slice aa n ca,.int .i64 N] 82);rw[ai]at B3;clear ai;generalize aj.alloc (.cells #[.int .i64 op,.int .i64 id,.slice aa n ca,.int .i64 N] 82)=wv at*;obtain⟨lB2,cB2,fB2⟩:=B2.out;obtain⟨lB3,cB3,fB3⟩:=B3.out;go_wp2_with fail;refine(uQ op).mono ?_;rintro e w1 ⟨rfl,rfl⟩;have an:=aMV op;obtain⟨s,hs⟩:∃s,s=shp0 op:=⟨_,rfl⟩;obtain⟨ok,ho⟩:∃ok,ok=(shp op).isSome:=⟨_,rfl⟩;rw[<-hs,<-ho]at ae;rw[<-hs]at an;simp only[<-hs,<-ho];clear hs ho;obtain⟨ak,ad,kn⟩:=s;simp only at*;have ao:(strA ad).size=ad.length:=by unfold strA;simp[ByteArray.size]
 generalize strA ad=st at*;obtain⟨l,hl⟩:∃l,l=ad.length:=⟨_,rfl⟩;rw[<-hl]at ae ao;clear hl;have aw:=h! ao;clear ao;have aq:=h! an;clear an
 cases ok
 ·go_wp2;go_ret;exact⟨by rw[ae.out];rfl,HW.out⟩
 ·cases hln:((n:Int) != ((st.size:Nat):Int));rotate_left
  ·have am:=h! hln;go_wp2;go_ret;exact⟨by rw[ae.out,show(n == l)=false by(have:=am.out;have h2:=aw.out;simp at this⊢;omega)];rfl,HW.out⟩
  have am:Hid ((n == l)=true):=h! (by have h2:=aw.out;simp at hln⊢;omega);rw[am.out,bY,bY]at ae
  cases hres:(ak == 0);rotate_left
  ·cases hid:(id != -1);rotate_left
   ·have HR:=h! hres;have HI:=h! hid;go_wp2;go_ret;exact⟨by rw[ae.out,show(ak != 0)=false by(have:=HR.out;simp at this;simp[this]),show(id == -1)=false by(have:=HI.out;simpa using this)];simp,HW.out⟩
   have HI:=h! hid;have HR:=h! hres;have ac:Hid (r=nOk ar ce kn N):=h! (by rw[ae.out,show(id == -1)=true by simpa using hid];simp);clear ae;have af:kn=0\/kn=1\/kn=2\/kn=3\/kn=4:=by have:=aq.out;omega
   have ay:IntKind.i64.wrap (ar - 1)=ar - 1:=nK ⟨by omega,by omega⟩;have ax:IntKind.i64.wrap (ce - 1)=ce - 1:=nK ⟨by omega,by omega⟩
   cases hN0:decide (0<=N);all_goals
    have ag:=h! hN0;rcases af with rfl|rfl|rfl|rfl|rfl;all_goals
     go_wp2;go_ret;first
      | exact⟨by rw[ac.out];rfl,HW.out⟩
      | exact⟨by rw[ac.out];show _=Ending.returned (.bool (decide (0<=N)&&decide (N<=0)));rw[ag.out];rfl,HW.out⟩
      | exact⟨by rw[ac.out];show _=Ending.returned (.bool (decide (0<=N)&&decide (N<=1)));rw[ag.out];rfl,HW.out⟩
      | exact⟨by rw[ac.out];show _=Ending.returned (.bool (decide (0<=N)&&decide (N<=ar - 1)));rw[ag.out];rfl,HW.out⟩
      | exact⟨by rw[ac.out];show _=Ending.returned (.bool (decide (0<=N)&&decide (N<=ce - 1)));rw[ag.out];rfl,HW.out⟩
  have HR:=h! hres;have ac:Hid (r=nOk ar ce kn N):=h! (by rw[ae.out,show(ak != 0)=true by(simp at hres;simpa using hres)];simp);clear ae;have af:kn=0\/kn=1\/kn=2\/kn=3\/kn=4:=by have:=aq.out;omega
  have ay:IntKind.i64.wrap (ar - 1)=ar - 1:=nK ⟨by omega,by omega⟩;have ax:IntKind.i64.wrap (ce - 1)=ce - 1:=nK ⟨by omega,by omega⟩
  cases hN0:decide (0<=N);all_goals
   have ag:=h! hN0;rcases af with rfl|rfl|rfl|rfl|rfl;all_goals
    go_wp2;go_ret;first
     | exact⟨by rw[ac.out];rfl,HW.out⟩
     | exact⟨by rw[ac.out];show _=Ending.returned (.bool (decide (0<=N)&&decide (N<=0)));rw[ag.out];rfl,HW.out⟩
     | exact⟨by rw[ac.out];show _=Ending.returned (.bool (decide (0<=N)&&decide (N<=1)));rw[ag.out];rfl,HW.out⟩
     | exact⟨by rw[ac.out];show _=Ending.returned (.bool (decide (0<=N)&&decide (N<=ar - 1)));rw[ag.out];rfl,HW.out⟩
     | exact⟨by rw[ac.out];show _=Ending.returned (.bool (decide (0<=N)&&decide (N<=ce - 1)));rw[ag.out];rfl,HW.out⟩
end Go.Proofs.YtagabiidbbhhmaaGreat
