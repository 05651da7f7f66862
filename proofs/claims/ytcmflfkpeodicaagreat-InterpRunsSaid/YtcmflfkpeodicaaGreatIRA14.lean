/- Part 14. -/
import Derived.Test.YtcmflfkpeodicaaGreatIRA12
namespace Go.Proofs.YtcmflfkpeodicaaGreat
set_option maxHeartbeats 6400000
set_option linter.all false
section
open Go.RowKit
theorem gG.form {W:World} {v:Value} {f:FuncD} (hv:gG W v f):∃ ap cp ab cb,v = .agg #[.slice ap f.params.length cp,.int .i64 f.arrays,.int .i64 f.cells,.slice ab f.blocks.length cb]/\Ints W (.slice ap f.params.length cp) f.params/\In64 f.arrays/\In64 f.cells/\eQ gF 6 W (.slice ab f.blocks.length cb) f.blocks:=by
 obtain ⟨a,b,rfl,hp,ha,hc,hB⟩:=hv
 obtain ⟨ap,cp,rfl⟩:=hp.form
 obtain ⟨ab,cb,rfl⟩:=hB.form
 exact ⟨ap,cp,ab,cb,rfl,hp,ha,hc,hB⟩
theorem kJ {x y:Int} (h:In64 (x+y)):IntKind.i64.wrap (x+y)=x+y:=by
 rw [fR];exact aFS h
theorem aBC {w:World} {v:Value} {f:FuncD} (hv:gG w v f) (hn:f.blocks.length <= 512):Calls Tryz.prog 24 #[v] w fun e w'=>e = .returned (.int .i64 (kZ f))/\Below w.heap.size w w':=by
 obtain ⟨ap,cp,ab,cb,rfl,hp,ha,hc,hB⟩:=hv.form
 have HSZ:=h! hB
 have HSF:Hid ((f.blocks.map gD).sum=kZ f):=h! rfl
 obtain ⟨a,cap,b,off,hbe,hbc,hbm,hbl,hba,hx⟩:=eW hB
 cases hbe
 have HA:=h! hba
 have HX:=h! hx
 obtain ⟨n,hnn⟩ : ∃ n,n=f.blocks.length:=⟨_,rfl⟩
 rw [<-hnn] at hn HA hbc hbl ⊢
 have HN:=h! hnn
 clear hba hx hB hp ha hc hv hnn
 generalize f.arrays=ar at *
 generalize f.cells=ce at *
 generalize f.params.length=np at *
 go_enter Tryz.func24,Tryz.ntmps24
 go_upto_region 1 with (fail)
 have hA_:=(Below.refl w.heap.size w).alloc (aF _) (.cells #[.slice ap np cp,.int .i64 ar,.int .i64 ce,.slice ab n cb] 25)
 have HW:=h! hA_
 clear hA_
 have B1:=h! (Box.new w #[.slice ap np cp,.int .i64 ar,.int .i64 ce,.slice ab n cb] 25)
 generalize w.alloc (.cells #[.slice ap np cp,.int .i64 ar,.int .i64 ce,.slice ab n cb] 25)=wv at *
 obtain ⟨lB1,cB1,fB1⟩:=B1.out
 go_wp2_with fail
 go_loopw [3,4] (fun s i wr => ∃ j:Nat,j <= n/\i = .int .i64 j/\s = .int .i64 (n+(((f.blocks.take j).map gD).sum - j))/\Below w.heap.size w wr/\Box wr w.heap.size #[.slice ap np cp,.int .i64 ar,.int .i64 ce,.slice ab n cb]) (fun _ i _=>n - (intOf i).toNat)
 case atStart=>exact ⟨0,aP _,rfl,by simp,HW.out,B1.out⟩
 obtain ⟨j,hj,rfl,rfl,hW,hB1⟩:=hrel
 clear lB1 cB1 fB1
 replace HW:=h! hW
 replace B1:=h! hB1
 clear hW hB1
 obtain ⟨lB1,cB1,fB1⟩:=B1.out
 by_cases hlt:j < n
 ·obtain ⟨rfl,hbw⟩:=HA.out (by omega)
  obtain ⟨x,hjx⟩ : ∃ x,f.blocks[j]? = some x:=⟨_,aB (by have:=HN.out;omega)⟩
  obtain ⟨ap2,ai,at_,cp2,ci,ct,hC⟩:=HX.out j x hjx
  obtain ⟨c0,c1,c2,c3,c4,c5,h6,h7,h8,h9,h10,h11⟩:=hC.below HW.out hbw
  have hs0:=pR HSZ.out j (by omega)
  have hl1:=h6.le
  have hl2:=h7.le
  have HSN:=h! (uO f.blocks j x hjx)
  have hsx:gD x=x.phis.length+x.code.length+1:=rfl
  rw [hsx] at HSN
  clear h6 h7 h8 h9 h10 h11 hC hjx hsx
  generalize ((f.blocks.take j).map gD).sum=s at *
  have e1:IntKind.i64.wrap ((x.phis.length:Int)+(x.code.length:Int))=(x.phis.length:Int)+(x.code.length:Int):=kJ ⟨by omega,by omega⟩
  have e2:IntKind.i64.wrap ((n+(s - j))+((x.phis.length:Int)+(x.code.length:Int)))=(n+(s - j))+((x.phis.length:Int)+(x.code.length:Int)):=kJ ⟨by omega,by omega⟩
  have hs1:=h! hs0
  go_upto_region 5 with (fail)
  go_quiet (fail)
  clear e1 e2
  go_wp2
  go_roundw
  case rel=>exact ⟨j+1,hlt,by go_num,by rw [HSN.out];congr 1;omega,eK HW.out _,B1.out.drewN _⟩
  simp [intOf];omega
 obtain rfl:j=n:=by omega
 rw [aI (by have:=HN.out;omega)]
 rw [HSF.out]
 rw [show ((j:Int)+(kZ f - (j:Int)))=kZ f by omega]
 go_wp2
 go_ret
 exact ⟨rfl,HW.out⟩
theorem aHV (op:Int):0 <= (shp0 op).n/\(shp0 op).n <= 4:=by
 by_cases h:op < 1 \/ 25 < op
 ·rw [yP h];simp
 obtain rfl | rfl | rfl | rfl | rfl | rfl | rfl | rfl | rfl | rfl | rfl | rfl | rfl | rfl | rfl | rfl | rfl | rfl | rfl | rfl | rfl | rfl | rfl | rfl | rfl:op=1 \/ op=2 \/ op=3 \/ op=4 \/ op=5 \/ op=6 \/ op=7 \/ op=8 \/ op=9 \/ op=10 \/ op=11 \/ op=12 \/ op=13 \/ op=14 \/ op=15 \/ op=16 \/ op=17 \/ op=18 \/ op=19 \/ op=20 \/ op=21 \/ op=22 \/ op=23 \/ op=24 \/ op=25:=by omega
 all_goals decide
theorem aCY {w:World} {ap ab:Option Addr} {np cp nb cb:Nat} {ar ce:Int} {x:InstrD} {aa:Option Addr} {ca:Nat} (har:0 <= ar/\ar <= 8) (hce:0 <= ce/\ce <= 64) :
  Calls Tryz.prog 180 #[.agg #[.slice ap np cp,.int .i64 ar,.int .i64 ce,.slice ab nb cb],.agg (vI x aa ca)] w fun e w'=>e = .returned (.bool (fQ ar ce x))/\Below w.heap.size w w':=by
 have HOK:Hid (fQ ar ce x=((shp x.op).isSome && (x.args.length == (shp0 x.op).args.length) && nOk ar ce (shp0 x.op).n x.n && ((shp0 x.op).result != 0 || x.id == -1))):=h! rfl
 obtain ⟨r,hr⟩ : ∃ r,r=fQ ar ce x:=⟨_,rfl⟩
 rw [<-hr] at HOK ⊢
 clear hr
 obtain ⟨op,id,args,N⟩:=x
 unfold vI
 simp only at *
 obtain ⟨n,hn⟩ : ∃ n,n=args.length:=⟨_,rfl⟩
 rw [<-hn] at HOK ⊢
 clear hn
 go_enter Tryz.func180,Tryz.ntmps180
 go_upto_region 1 with (fail)
 have hA_:=(Below.refl w.heap.size w).alloc (aF _) (.cells #[.slice ap np cp,.int .i64 ar,.int .i64 ce,.slice ab nb cb] 25)
 have HW:=h! hA_
 clear hA_
 have B2:=h! (Box.new w #[.slice ap np cp,.int .i64 ar,.int .i64 ce,.slice ab nb cb] 25)
 have hz0_:(w.alloc (.cells #[.slice ap np cp,.int .i64 ar,.int .i64 ce,.slice ab nb cb] 25)).heap.size=w.heap.size+1:=World.size_alloc _ _
 generalize w.alloc (.cells #[.slice ap np cp,.int .i64 ar,.int .i64 ce,.slice ab nb cb] 25)=wv0 at *
 have hA_:=(Below.refl wv0.heap.size wv0).alloc (aF _) (.cells #[.int .i64 op,.int .i64 id,.slice aa n ca,.int .i64 N] 69)
 replace B2:=h! (B2.out.later hA_)
 replace HW:=h! (HW.out.trans (hA_.mono HW.out.size))
 clear hA_
 have B3:=h! (Box.new wv0 #[.int .i64 op,.int .i64 id,.slice aa n ca,.int .i64 N] 69)
 rw [hz0_] at B3
 clear hz0_
 generalize wv0.alloc (.cells #[.int .i64 op,.int .i64 id,.slice aa n ca,.int .i64 N] 69)=wv at *
 obtain ⟨lB2,cB2,fB2⟩:=B2.out
 obtain ⟨lB3,cB3,fB3⟩:=B3.out
 go_wp2_with fail
 refine (eO op).mono ?_
 rintro e w1 ⟨rfl,rfl⟩
 have hkn:=aHV op
 obtain ⟨s,hs⟩ : ∃ s,s=shp0 op:=⟨_,rfl⟩
 obtain ⟨ok,ho⟩ : ∃ ok,ok=(shp op).isSome:=⟨_,rfl⟩
 rw [<-hs, <-ho] at HOK
 rw [<-hs] at hkn
 simp only [<-hs, <-ho]
 clear hs ho
 obtain ⟨res,sargs,kn⟩:=s
 simp only at *
 have hsz:(strA sargs).size=sargs.length:=by unfold strA;simp [ByteArray.size]
 generalize strA sargs=st at *
 obtain ⟨l,hl⟩ : ∃ l,l=sargs.length:=⟨_,rfl⟩
 rw [<-hl] at HOK hsz
 clear hl
 have HSZ:=h! hsz
 clear hsz
 have HKN:=h! hkn
 clear hkn
 cases ok
 ·go_wp2
  go_ret
  exact ⟨by rw [HOK.out];rfl,HW.out⟩
 ·cases hln:((n:Int) != ((st.size:Nat):Int))
  rotate_left
  ·have HLN:=h! hln
   go_wp2
   go_ret
   exact ⟨by rw [HOK.out,show (n == l)=false by (have:=HLN.out;have h2:=HSZ.out;simp at this ⊢;omega)];rfl,HW.out⟩
  have HLN:Hid ((n == l)=true):=h! (by have h2:=HSZ.out;simp at hln ⊢;omega)
  rw [HLN.out,cQ,cQ] at HOK
  cases hres:(res == 0)
  rotate_left
  ·cases hid:(id != -1)
   rotate_left
   ·have HR:=h! hres
    have HI:=h! hid
    go_wp2
    go_ret
    exact ⟨by rw [HOK.out,show (res != 0)=false by (have:=HR.out;simp at this;simp [this]),show (id == -1)=false by (have:=HI.out;simpa using this)];simp,HW.out⟩
   have HI:=h! hid
   have HR:=h! hres
   have HOK2:Hid (r=nOk ar ce kn N):=h! (by rw [HOK.out,show (id == -1)=true by simpa using hid];simp)
   clear HOK
   have hways:kn=0 \/ kn=1 \/ kn=2 \/ kn=3 \/ kn=4:=by have:=HKN.out;omega
   have hm1:IntKind.i64.wrap (ar - 1)=ar - 1:=kJ ⟨by omega,by omega⟩
   have hm2:IntKind.i64.wrap (ce - 1)=ce - 1:=kJ ⟨by omega,by omega⟩
   cases hN0:decide (0 <= N)
   all_goals
    have HN0:=h! hN0
    rcases hways with rfl | rfl | rfl | rfl | rfl
    all_goals
     go_wp2
     go_ret
     first
      | exact ⟨by rw [HOK2.out];rfl,HW.out⟩
      | exact ⟨by rw [HOK2.out];show _=Ending.returned (.bool (decide (0 <= N) && decide (N <= 0)));rw [HN0.out];rfl,HW.out⟩
      | exact ⟨by rw [HOK2.out];show _=Ending.returned (.bool (decide (0 <= N) && decide (N <= 1)));rw [HN0.out];rfl,HW.out⟩
      | exact ⟨by rw [HOK2.out];show _=Ending.returned (.bool (decide (0 <= N) && decide (N <= ar - 1)));rw [HN0.out];rfl,HW.out⟩
      | exact ⟨by rw [HOK2.out];show _=Ending.returned (.bool (decide (0 <= N) && decide (N <= ce - 1)));rw [HN0.out];rfl,HW.out⟩
  have HR:=h! hres
  have HOK2:Hid (r=nOk ar ce kn N):=h! (by rw [HOK.out,show (res != 0)=true by (simp at hres;simpa using hres)];simp)
  clear HOK
  have hways:kn=0 \/ kn=1 \/ kn=2 \/ kn=3 \/ kn=4:=by have:=HKN.out;omega
  have hm1:IntKind.i64.wrap (ar - 1)=ar - 1:=kJ ⟨by omega,by omega⟩
  have hm2:IntKind.i64.wrap (ce - 1)=ce - 1:=kJ ⟨by omega,by omega⟩
  cases hN0:decide (0 <= N)
  all_goals
   have HN0:=h! hN0
   rcases hways with rfl | rfl | rfl | rfl | rfl
   all_goals
    go_wp2
    go_ret
    first
     | exact ⟨by rw [HOK2.out];rfl,HW.out⟩
     | exact ⟨by rw [HOK2.out];show _=Ending.returned (.bool (decide (0 <= N) && decide (N <= 0)));rw [HN0.out];rfl,HW.out⟩
     | exact ⟨by rw [HOK2.out];show _=Ending.returned (.bool (decide (0 <= N) && decide (N <= 1)));rw [HN0.out];rfl,HW.out⟩
     | exact ⟨by rw [HOK2.out];show _=Ending.returned (.bool (decide (0 <= N) && decide (N <= ar - 1)));rw [HN0.out];rfl,HW.out⟩
     | exact ⟨by rw [HOK2.out];show _=Ending.returned (.bool (decide (0 <= N) && decide (N <= ce - 1)));rw [HN0.out];rfl,HW.out⟩
theorem aBD {f:FuncD} (hno:iH f=false):16 < f.params.length \/ (f.params.length <= 16/\f.arrays < 0) \/ (f.params.length <= 16/\0 <= f.arrays/\8 < f.arrays) \/ (f.params.length <= 16/\0 <= f.arrays/\f.arrays <= 8/\f.cells < 0) \/ (f.params.length <= 16/\0 <= f.arrays/\f.arrays <= 8/\0 <= f.cells/\64 < f.cells) \/
   (f.params.length <= 16/\0 <= f.arrays/\f.arrays <= 8/\0 <= f.cells/\f.cells <= 64/\f.blocks.length < 1) \/ (f.params.length <= 16/\0 <= f.arrays/\f.arrays <= 8/\0 <= f.cells/\f.cells <= 64/\1 <= f.blocks.length/\512 < f.blocks.length) \/
   (f.params.length <= 16/\0 <= f.arrays/\f.arrays <= 8/\0 <= f.cells/\f.cells <= 64/\1 <= f.blocks.length/\f.blocks.length <= 512/\4096 < kZ f):=by
 by_cases h1:16 < f.params.length
 ·exact .inl h1
 ·by_cases h2:f.arrays < 0
  ·exact .inr (.inl ⟨by omega,h2⟩)
  by_cases h3:8 < f.arrays
  ·exact .inr (.inr (.inl ⟨by omega,by omega,h3⟩))
  by_cases h4:f.cells < 0
  ·exact .inr (.inr (.inr (.inl ⟨by omega,by omega,by omega,h4⟩)))
  by_cases h5:64 < f.cells
  ·exact .inr (.inr (.inr (.inr (.inl ⟨by omega,by omega,by omega,by omega,h5⟩))))
  by_cases h6:f.blocks.length < 1
  ·exact .inr (.inr (.inr (.inr (.inr (.inl ⟨by omega,by omega,by omega,by omega,by omega,h6⟩)))))
  by_cases h7:512 < f.blocks.length
  ·exact .inr (.inr (.inr (.inr (.inr (.inr (.inl ⟨by omega,by omega,by omega,by omega,by omega,by omega,h7⟩))))))
  refine .inr (.inr (.inr (.inr (.inr (.inr (.inr ⟨by omega,by omega,by omega,by omega,by omega,by omega,by omega, ?_⟩))))))
  unfold iH at hno
  simp at hno
  have:=hno (by omega) (by omega) (by omega) (by omega) (by omega) (by omega) (by omega)
  omega
set_option maxRecDepth 100000 in
theorem uG {w:World} {v:Value} {f:FuncD} (hv:gG w v f) (hno:iH f=false) :
  Calls Tryz.prog 118 #[v] w fun e w'=>e = .returned (.bool false)/\Below w.heap.size w w':=by
 have HV:=h! hv
 obtain ⟨ap,cp,ab,cb,rfl,hp,ha,hc,hB⟩:=hv.form
 have hways:=aBD hno
 clear hno hp ha hc hB hv
 obtain ⟨np,hnp⟩ : ∃ np,np=f.params.length:=⟨_,rfl⟩
 obtain ⟨nb,hnb⟩ : ∃ nb,nb=f.blocks.length:=⟨_,rfl⟩
 obtain ⟨ar,har⟩ : ∃ ar,ar=f.arrays:=⟨_,rfl⟩
 obtain ⟨ce,hce⟩ : ∃ ce,ce=f.cells:=⟨_,rfl⟩
 obtain ⟨sz,hsz⟩ : ∃ sz,sz=kZ f:=⟨_,rfl⟩
 rw [<-hnp, <-hnb, <-har, <-hce] at HV hways ⊢
 rw [<-hsz] at hways
 have HNB:=h! hnb
 have HSF:=h! hsz
 clear hnp hnb har hce hsz
 rcases hways with h | ⟨h1,h⟩ | ⟨h1,h2,h⟩ | ⟨h1,h2,h3,h⟩ | ⟨h1,h2,h3,h4,h⟩ | ⟨h1,h2,h3,h4,h5,h⟩ | ⟨h1,h2,h3,h4,h5,h6,h⟩ | ⟨h1,h2,h3,h4,h5,h6,h7,h⟩
 all_goals
  go_enter Tryz.func118,Tryz.ntmps118
  go_upto_region 1 with (fail)
  have hA_:=(Below.refl w.heap.size w).alloc (aF _) (.cells #[.slice ap np cp,.int .i64 ar,.int .i64 ce,.slice ab nb cb] 25)
  have HW:=h! hA_
  clear hA_
  have B1:=h! (Box.new w #[.slice ap np cp,.int .i64 ar,.int .i64 ce,.slice ab nb cb] 25)
  generalize w.alloc (.cells #[.slice ap np cp,.int .i64 ar,.int .i64 ce,.slice ab nb cb] 25)=wv at *
  obtain ⟨lB1,cB1,fB1⟩:=B1.out
  go_wp2_with (go_at_call 24;refine (aBC (HV.out.below HW.out) (by rw [<-HNB.out];assumption)).mono ?_;rintro e w1 ⟨rfl,hb1⟩;have HB1:=h! (HW.out.trans (hb1.mono HW.out.size));clear hb1;rw [<-HSF.out])
  go_ret
  first | exact ⟨rfl,HB1.out⟩ | exact ⟨rfl,HW.out⟩
def toOk (nb:Nat) (b:Int):Bool:=decide (1 <= b) && decide (b < (nb:Int))
theorem aCZ (nb:Nat) (t:TermD):gS nb t=(t.to.all (toOk nb) && ((t.op == 1 && ((t.to.length:Int) == 1) && t.val == -1 && t.n == 0) || (t.op == 2 && ((t.to.length:Int) == 2) && t.n == 0) || (t.op == 3 && ((t.to.length:Int) == 0) && t.n == 0) || (t.op == 4 && ((t.to.length:Int) == 0) && t.val == -1 && decide (0 <= t.n)))):=by
 unfold gS
 rw [show (t.to.length == 1)=((t.to.length:Int) == 1) by (rw [cC];simp;omega),show (t.to.length == 2)=((t.to.length:Int) == 2) by (rw [cC];simp;omega),show (t.to.length == 0)=((t.to.length:Int) == 0) by (rw [cC];simp)]
 rfl
theorem aHW {w:World} {ap ab:Option Addr} {np cp nb cb:Nat} {ar ce:Int} {t:TermD} {at_:Option Addr} {ct:Nat} (hs:Ints w (.slice at_ t.to.length ct) t.to) :
  Calls Tryz.prog 181 #[.agg #[.slice ap np cp,.int .i64 ar,.int .i64 ce,.slice ab nb cb],.agg (aCG t at_ ct)] w fun e w'=>e = .returned (.bool (gS nb t))/\Below w.heap.size w w':=by
 have HE:=h! (aCZ nb t)
 obtain ⟨r,hr⟩ : ∃ r,r=gS nb t:=⟨_,rfl⟩
 rw [<-hr] at HE ⊢
 clear hr
 obtain ⟨op,val,to,N⟩:=t
 unfold aCG
 simp only at *
 obtain ⟨a,cap,b,o,hav,hc,hcm,ha,hx⟩:=hs.parts
 cases hav
 have hle:=hs.1.big
 obtain ⟨n,hn⟩ : ∃ n,n=to.length:=⟨_,rfl⟩
 rw [<-hn] at HE hc ha hx hle ⊢
 have HN:=h! hn
 have HA:=h! ha
 have HX:=h! hx
 clear hn ha hx hs
 go_enter Tryz.func181,Tryz.ntmps181
 go_upto_region 1 with (fail)
 have hA_:=(Below.refl w.heap.size w).alloc (aF _) (.cells #[.slice ap np cp,.int .i64 ar,.int .i64 ce,.slice ab nb cb] 25)
 have HW:=h! hA_
 clear hA_
 have B2:=h! (Box.new w #[.slice ap np cp,.int .i64 ar,.int .i64 ce,.slice ab nb cb] 25)
 have hz0_:(w.alloc (.cells #[.slice ap np cp,.int .i64 ar,.int .i64 ce,.slice ab nb cb] 25)).heap.size=w.heap.size+1:=World.size_alloc _ _
 generalize w.alloc (.cells #[.slice ap np cp,.int .i64 ar,.int .i64 ce,.slice ab nb cb] 25)=wv0 at *
 have hA_:=(Below.refl wv0.heap.size wv0).alloc (aF _) (.cells #[.int .i64 op,.int .i64 val,.slice at_ n ct,.int .i64 N] 48)
 replace B2:=h! (B2.out.later hA_)
 replace HW:=h! (HW.out.trans (hA_.mono HW.out.size))
 clear hA_
 have B3:=h! (Box.new wv0 #[.int .i64 op,.int .i64 val,.slice at_ n ct,.int .i64 N] 48)
 rw [hz0_] at B3
 clear hz0_
 generalize wv0.alloc (.cells #[.int .i64 op,.int .i64 val,.slice at_ n ct,.int .i64 N] 48)=wv at *
 obtain ⟨lB2,cB2,fB2⟩:=B2.out
 obtain ⟨lB3,cB3,fB3⟩:=B3.out
 go_wp2_with fail
 go_loopw [5] (fun i wr => ∃ j:Nat,j <= n/\i = .int .i64 j/\(to.take j).all (toOk nb)=true/\Below w.heap.size w wr/\Box wr w.heap.size #[.slice ap np cp,.int .i64 ar,.int .i64 ce,.slice ab nb cb]/\Box wr (w.heap.size+1) #[.int .i64 op,.int .i64 val,.slice at_ n ct,.int .i64 N]) (fun i _=>n - (intOf i).toNat)
 case atStart=>exact ⟨0,aP _,rfl,rfl,HW.out,B2.out,B3.out⟩
 case round =>
  obtain ⟨j,hj,rfl,hall,hW,hB2,hB3⟩:=hrel
  clear lB2 cB2 fB2 lB3 cB3 fB3
  have HALL:=h! hall
  replace HW:=h! hW
  replace B2:=h! hB2
  replace B3:=h! hB3
  clear hall hW hB2 hB3
  obtain ⟨lB2,cB2,fB2⟩:=B2.out
  obtain ⟨lB3,cB3,fB3⟩:=B3.out
  by_cases hlt:j < n
  ·obtain ⟨rfl,hbw⟩:=HA.out (by omega)
   have h0:=(HW.out.cell hbw).trans (HX.out j hlt)
   have hjx:=eX to j (by have:=HN.out;omega)
   have HTS:=h! (eP to j _ hjx)
   have HM:=h! (aG hjx)
   clear hjx
   generalize to.getD j 0=y at *
   cases hy1:decide (y < 1)
   ·cases hy2:decide ((nb:Int) <= y)
    ·have HY:Hid (toOk nb y=true):=h! (by unfold toOk;simp at hy1 hy2 ⊢;omega)
     go_upto_region 4 with (fail)
     go_quiet (fail)
     go_wp2
     go_roundw
     case rel=>exact ⟨j+1,hlt,by go_num,by rw [HTS.out,cX,HALL.out];simp [HY.out],eK HW.out _,B2.out.drewN _,B3.out.drewN _⟩
     simp [intOf];omega
    have HY:Hid (toOk nb y=false):=h! (by unfold toOk;simp at hy1 hy2 ⊢;omega)
    go_upto_region 4 with (fail)
    go_quiet (fail)
    go_wp2
    go_ret
    exact ⟨by rw [HE.out,show to.all (toOk nb)=false by (rw [bZ];exact ⟨y,HM.out,by rw [HY.out];simp⟩)];rfl,eK HW.out _⟩
   have HY:Hid (toOk nb y=false):=h! (by unfold toOk;simp at hy1 ⊢;omega)
   go_upto_region 4 with (fail)
   go_quiet (fail)
   go_wp2
   go_ret
   exact ⟨by rw [HE.out,show to.all (toOk nb)=false by (rw [bZ];exact ⟨y,HM.out,by rw [HY.out];simp⟩)];rfl,eK HW.out _⟩
  obtain rfl:j=n:=by omega
  rw [aI (by have:=HN.out;omega)] at HALL
  rw [HALL.out,cQ] at HE
  by_cases h1:op=1
  ·subst h1
   cases hn1:((j:Int) == 1) <;> cases hv:(val == -1) <;> cases hN:(N == 0)
   all_goals
    rw [hn1,hv,hN] at HE
    go_wp2
    go_ret
    exact ⟨by rw [HE.out];simp,HW.out⟩
  by_cases h2:op=2
  ·subst h2
   cases hn1:((j:Int) == 2) <;> cases hN:(N == 0)
   all_goals
    rw [hn1,hN] at HE
    clear h1
    go_wp2
    go_ret
    exact ⟨by rw [HE.out];simp,HW.out⟩
  by_cases h3:op=3
  ·subst h3
   cases hn1:((j:Int) == 0) <;> cases hN:(N == 0)
   all_goals
    rw [hn1,hN] at HE
    clear h1 h2
    go_wp2
    go_ret
    exact ⟨by rw [HE.out];simp,HW.out⟩
  by_cases h4:op=4
  ·subst h4
   cases hn1:((j:Int) == 0) <;> cases hv:(val == -1) <;> cases hN:decide (0 <= N)
   all_goals
    rw [hn1,hv,hN] at HE
    clear h1 h2 h3
    go_wp2
    go_ret
    exact ⟨by rw [HE.out];simp,HW.out⟩
  have e1:(op == 1)=false:=by simpa using h1
  have e2:(op == 2)=false:=by simpa using h2
  have e3:(op == 3)=false:=by simpa using h3
  have e4:(op == 4)=false:=by simpa using h4
  clear h1 h2 h3 h4
  rw [e1,e2,e3,e4] at HE
  go_wp2
  go_ret
  exact ⟨by rw [HE.out];simp,HW.out⟩
end
section
open Go.RowKit
theorem aA7 {w : World} {fv : Array Value} (hf : fv.size = 4) {id typ : Int} {af av : Option Addr} {n m cf cv : Nat} {ap ab : Option Addr} {np cp nb cb : Nat} {ar ce : Int} (h : ((typ == 1 || typ == 2) && (n == m)) = false) :
    Calls Tryz.prog 179 #[.agg #[.slice ap np cp, .int .i64 ar, .int .i64 ce, .slice ab nb cb], .agg #[.int .i64 id, .int .i64 typ, .slice af n cf, .slice av m cv]] w fun e w' => e = .returned (.bool false) ∧ Below w.heap.size w w' := by
  clear hf
  cases ht1 : (typ == 1) <;> cases ht2 : (typ == 2) <;> cases hl : ((n : Int) == (m : Int))
  all_goals
    first
      | (have hnm : n = m := by simp at hl; omega
         subst hnm
         rw [ht1, ht2] at h
         simp at h; done)
      | (clear h
         go_enter Tryz.func179, Tryz.ntmps179
         go_upto_region 1 with (fail)
         have hA_ := (Below.refl w.heap.size w).alloc (aF _) (.cells #[.slice ap np cp, .int .i64 ar, .int .i64 ce, .slice ab nb cb] 25)
         have HW := h! hA_
         clear hA_
         have B2 := h! (Box.new w #[.slice ap np cp, .int .i64 ar, .int .i64 ce, .slice ab nb cb] 25)
         have hz0_ : (w.alloc (.cells #[.slice ap np cp, .int .i64 ar, .int .i64 ce, .slice ab nb cb] 25)).heap.size = w.heap.size + 1 := World.size_alloc _ _
         generalize w.alloc (.cells #[.slice ap np cp, .int .i64 ar, .int .i64 ce, .slice ab nb cb] 25) = wv0 at *
         have hA_ := (Below.refl wv0.heap.size wv0).alloc (aF _) (.cells #[.int .i64 id, .int .i64 typ, .slice af n cf, .slice av m cv] 113)
         replace B2 := h! (B2.out.later hA_)
         replace HW := h! (HW.out.trans (hA_.mono HW.out.size))
         clear hA_
         have B3 := h! (Box.new wv0 #[.int .i64 id, .int .i64 typ, .slice af n cf, .slice av m cv] 113)
         rw [hz0_] at B3
         clear hz0_
         generalize wv0.alloc (.cells #[.int .i64 id, .int .i64 typ, .slice af n cf, .slice av m cv] 113) = wv at *
         obtain ⟨lB2, cB2, fB2⟩ := B2.out
         obtain ⟨lB3, cB3, fB3⟩ := B3.out
         go_wp2
         all_goals (go_ret; exact ⟨rfl, HW.out⟩))
theorem aE5 {w:World} {ap ab:Option Addr} {np cp nb cb:Nat} {ar ce:Int} {id:Int} {src:List Int} {n:Nat} {af av:Option Addr} {cf cv:Nat} (hn:n=src.length) (hs:Ints w (.slice af n cf) src) :
  Calls Tryz.prog 179 #[.agg #[.slice ap np cp,.int .i64 ar,.int .i64 ce,.slice ab nb cb],.agg #[.int .i64 id,.int .i64 1,.slice af n cf,.slice av n cv]] w fun e w'=>e = .returned (.bool (src.all (numB nb) && decide src.Nodup))/\Below w.heap.size w w':=by
 obtain ⟨a,cap,b,o,hav,hc,hcm,ha,hx⟩:=hs.parts
 rw [<-hn] at hav hc ha hx
 cases hav
 have hle:=hs.1.big
 rw [<-hn] at hle
 have HN:=h! hn
 have HA:=h! ha
 have HX:=h! hx
 obtain ⟨r,hr⟩ : ∃ r,r=(src.all (numB nb) && decide src.Nodup):=⟨_,rfl⟩
 rw [<-hr]
 have HR:=h! hr
 clear hn ha hx hs hr
 go_enter Tryz.func179,Tryz.ntmps179
 go_upto_region 1 with (fail)
 have hA_:=(Below.refl w.heap.size w).alloc (aF _) (.cells #[.slice ap np cp,.int .i64 ar,.int .i64 ce,.slice ab nb cb] 25)
 have HW:=h! hA_
 clear hA_
 have B2:=h! (Box.new w #[.slice ap np cp,.int .i64 ar,.int .i64 ce,.slice ab nb cb] 25)
 have hz0_:(w.alloc (.cells #[.slice ap np cp,.int .i64 ar,.int .i64 ce,.slice ab nb cb] 25)).heap.size=w.heap.size+1:=World.size_alloc _ _
 generalize w.alloc (.cells #[.slice ap np cp,.int .i64 ar,.int .i64 ce,.slice ab nb cb] 25)=wv0 at *
 have hA_:=(Below.refl wv0.heap.size wv0).alloc (aF _) (.cells #[.int .i64 id,.int .i64 1,.slice af n cf,.slice av n cv] 113)
 replace B2:=h! (B2.out.later hA_)
 replace HW:=h! (HW.out.trans (hA_.mono HW.out.size))
 clear hA_
 have B3:=h! (Box.new wv0 #[.int .i64 id,.int .i64 1,.slice af n cf,.slice av n cv] 113)
 rw [hz0_] at B3
 clear hz0_
 generalize wv0.alloc (.cells #[.int .i64 id,.int .i64 1,.slice af n cf,.slice av n cv] 113)=wv at *
 obtain ⟨lB2,cB2,fB2⟩:=B2.out
 obtain ⟨lB3,cB3,fB3⟩:=B3.out
 go_wp2_with fail
 go_loopw [5] (fun i wr => ∃ j:Nat,j <= n/\i = .int .i64 j/\(src.take j).all (numB nb)=true/\(src.take j).Nodup/\Below w.heap.size w wr/\Box wr w.heap.size #[.slice ap np cp,.int .i64 ar,.int .i64 ce,.slice ab nb cb]/\Box wr (w.heap.size+1) #[.int .i64 id,.int .i64 1,.slice af n cf,.slice av n cv]) (fun i _=>n - (intOf i).toNat)
 case atStart=>exact ⟨0,aP _,rfl,rfl,by simp,HW.out,B2.out,B3.out⟩
 case round =>
  obtain ⟨j,hj,rfl,hall,hnd,hW,hB2,hB3⟩:=hrel
  clear lB2 cB2 fB2 lB3 cB3 fB3
  have HALL:=h! hall
  have HND:=h! hnd
  replace HW:=h! hW
  replace B2:=h! hB2
  replace B3:=h! hB3
  clear hall hnd hW hB2 hB3
  generalize wr=wj at *
  obtain ⟨lB2,cB2,fB2⟩:=B2.out
  obtain ⟨lB3,cB3,fB3⟩:=B3.out
  by_cases hlt:j < n
  ·have hne:=HA.out (by omega)
   obtain ⟨rfl,hbw⟩:=hne
   have h0:=(HW.out.cell hbw).trans (HX.out j hlt)
   have hjx:=eX src j (by have:=HN.out;omega)
   have HTS:=h! (eP src j _ hjx)
   have HM:=h! (aG hjx)
   have HJX:=h! hjx
   clear hjx
   obtain ⟨y,hy⟩ : ∃ y,y=src.getD j 0:=⟨_,rfl⟩
   rw [<-hy] at h0 HTS HM HJX
   have HYE:=h! hy
   clear hy
   cases hy1:decide (y < 0)
   ·cases hy2:decide ((nb:Int) <= y)
    ·have HY:Hid (numB nb y=true):=h! (by unfold numB;simp at hy1 hy2 ⊢;omega)
     go_upto_region 6 with (fail)
     go_quiet (fail)
     replace HW:=h! (eK HW.out nq)
     clear lB2 cB2 fB2 lB3 cB3 fB3
     replace B2:=h! (B2.out.drewN nq)
     replace B3:=h! (B3.out.drewN nq)
     clear h0 hy1 hy2
     generalize wj.drewN nq=wk at *
     obtain ⟨lB2,cB2,fB2⟩:=B2.out
     obtain ⟨lB3,cB3,fB3⟩:=B3.out
     go_wp2_with fail
     go_loopw [6] (fun i wr => ∃ k:Nat,k <= j/\i = .int .i64 k/\y ∉ src.take k/\Below w.heap.size w wr/\Box wr w.heap.size #[.slice ap np cp,.int .i64 ar,.int .i64 ce,.slice ab nb cb]/\Box wr (w.heap.size+1) #[.int .i64 id,.int .i64 1,.slice (some ⟨b,o,none⟩) n cf,.slice av n cv]) (fun i _=>j - (intOf i).toNat)
     case atStart=>exact ⟨0,aP _,rfl,by simp,HW.out,B2.out,B3.out⟩
     obtain ⟨k,hk,rfl,hno,hW,hB2,hB3⟩:=hrel
     clear lB2 cB2 fB2 lB3 cB3 fB3
     have HNO:=h! hno
     replace HW:=h! hW
     replace B2:=h! hB2
     replace B3:=h! hB3
     clear hno hW hB2 hB3
     obtain ⟨lB2,cB2,fB2⟩:=B2.out
     obtain ⟨lB3,cB3,fB3⟩:=B3.out
     by_cases hlt2:k < j
     ·have h1:wr.cell? ⟨b,o+j,none⟩=some (.int .i64 y):=by rw [HYE.out];exact (HW.out.cell hbw).trans (HX.out j hlt)
      have hkn:k < n:=by omega
      have h2:=(HW.out.cell hbw).trans (HX.out k hkn)
      have hkx:=eX src k (by have:=HN.out;omega)
      have HTS2:=h! (eP src k _ hkx)
      have HKM:Hid (src.getD k 0 ∈ src.take j):=h! (by
       rw [bJ];exact ⟨k,by rw [bE,if_pos hlt2];exact hkx⟩)
      clear hkx
      generalize src.getD k 0=z at *
      cases hzy:(z == y)
      ·have HZ:=h! hzy
       go_upto_region 11 with (fail)
       go_quiet (fail)
       go_wp2
       go_roundw
       case rel=>exact ⟨k+1,hlt2,by go_num,by rw [HTS2.out];have h3:=HZ.out;have h4:=HNO.out;simp at h3;simp [h4];exact fun e=>h3 e.symm,eK HW.out _,B2.out.drewN _,B3.out.drewN _⟩
       simp [intOf];omega
      have HZ:=h! hzy
      go_upto_region 11 with (fail)
      go_quiet (fail)
      go_wp2
      go_ret
      refine ⟨?_,eK HW.out _⟩
      have h3:z=y:=by simpa using HZ.out
      have h4:¬ src.Nodup:=fun hnd=>by
       have h5:(src.take (j+1)).Nodup:=List.Nodup.sublist (List.take_sublist _ _) hnd
       rw [HTS.out,cE] at h5
       exact h5.2.2 z HKM.out y (by simp) h3
      rw [HR.out,decide_eq_false h4,Bool.and_false]
      rfl
     obtain rfl:k=j:=by omega
     go_wp2
     go_roundw
     case rel=>exact ⟨k+1,hlt,by go_num,by rw [HTS.out,cX,HALL.out];simp [HY.out],by rw [HTS.out,cE];exact ⟨HND.out,by simp,fun x hx y2 hy2 e=>by simp at hy2;subst hy2;subst e;exact HNO.out hx⟩,HW.out,B2.out,B3.out⟩
     simp [intOf];omega
    have HY:Hid (numB nb y=false):=h! (by unfold numB;simp at hy1 hy2 ⊢;omega)
    go_upto_region 6 with (fail)
    go_quiet (fail)
    go_wp2
    go_ret
    exact ⟨by rw [HR.out,show src.all (numB nb)=false by (rw [bZ];exact ⟨y,HM.out,by rw [HY.out];simp⟩)];rfl,eK HW.out _⟩
   have HY:Hid (numB nb y=false):=h! (by unfold numB;simp at hy1 ⊢;omega)
   go_upto_region 6 with (fail)
   go_quiet (fail)
   go_wp2
   go_ret
   exact ⟨by rw [HR.out,show src.all (numB nb)=false by (rw [bZ];exact ⟨y,HM.out,by rw [HY.out];simp⟩)];rfl,eK HW.out _⟩
  obtain rfl:j=n:=by omega
  rw [aI (by have:=HN.out;omega)] at HALL HND
  go_wp2
  go_ret
  exact ⟨by rw [HR.out,HALL.out,decide_eq_true HND.out];rfl,HW.out⟩
theorem aE6 {w:World} {ap ab:Option Addr} {np cp nb cb:Nat} {ar ce:Int} {id:Int} {src:List Int} {n:Nat} {af av:Option Addr} {cf cv:Nat} (hn:n=src.length) (hs:Ints w (.slice af n cf) src) :
  Calls Tryz.prog 179 #[.agg #[.slice ap np cp,.int .i64 ar,.int .i64 ce,.slice ab nb cb],.agg #[.int .i64 id,.int .i64 2,.slice af n cf,.slice av n cv]] w fun e w'=>e = .returned (.bool (src.all (numB nb) && decide src.Nodup))/\Below w.heap.size w w':=by
 obtain ⟨a,cap,b,o,hav,hc,hcm,ha,hx⟩:=hs.parts
 rw [<-hn] at hav hc ha hx
 cases hav
 have hle:=hs.1.big
 rw [<-hn] at hle
 have HN:=h! hn
 have HA:=h! ha
 have HX:=h! hx
 obtain ⟨r,hr⟩ : ∃ r,r=(src.all (numB nb) && decide src.Nodup):=⟨_,rfl⟩
 rw [<-hr]
 have HR:=h! hr
 clear hn ha hx hs hr
 go_enter Tryz.func179,Tryz.ntmps179
 go_upto_region 1 with (fail)
 have hA_:=(Below.refl w.heap.size w).alloc (aF _) (.cells #[.slice ap np cp,.int .i64 ar,.int .i64 ce,.slice ab nb cb] 25)
 have HW:=h! hA_
 clear hA_
 have B2:=h! (Box.new w #[.slice ap np cp,.int .i64 ar,.int .i64 ce,.slice ab nb cb] 25)
 have hz0_:(w.alloc (.cells #[.slice ap np cp,.int .i64 ar,.int .i64 ce,.slice ab nb cb] 25)).heap.size=w.heap.size+1:=World.size_alloc _ _
 generalize w.alloc (.cells #[.slice ap np cp,.int .i64 ar,.int .i64 ce,.slice ab nb cb] 25)=wv0 at *
 have hA_:=(Below.refl wv0.heap.size wv0).alloc (aF _) (.cells #[.int .i64 id,.int .i64 2,.slice af n cf,.slice av n cv] 113)
 replace B2:=h! (B2.out.later hA_)
 replace HW:=h! (HW.out.trans (hA_.mono HW.out.size))
 clear hA_
 have B3:=h! (Box.new wv0 #[.int .i64 id,.int .i64 2,.slice af n cf,.slice av n cv] 113)
 rw [hz0_] at B3
 clear hz0_
 generalize wv0.alloc (.cells #[.int .i64 id,.int .i64 2,.slice af n cf,.slice av n cv] 113)=wv at *
 obtain ⟨lB2,cB2,fB2⟩:=B2.out
 obtain ⟨lB3,cB3,fB3⟩:=B3.out
 go_wp2_with fail
 go_loopw [5] (fun i wr => ∃ j:Nat,j <= n/\i = .int .i64 j/\(src.take j).all (numB nb)=true/\(src.take j).Nodup/\Below w.heap.size w wr/\Box wr w.heap.size #[.slice ap np cp,.int .i64 ar,.int .i64 ce,.slice ab nb cb]/\Box wr (w.heap.size+1) #[.int .i64 id,.int .i64 2,.slice af n cf,.slice av n cv]) (fun i _=>n - (intOf i).toNat)
 case atStart=>exact ⟨0,aP _,rfl,rfl,by simp,HW.out,B2.out,B3.out⟩
 case round =>
  obtain ⟨j,hj,rfl,hall,hnd,hW,hB2,hB3⟩:=hrel
  clear lB2 cB2 fB2 lB3 cB3 fB3
  have HALL:=h! hall
  have HND:=h! hnd
  replace HW:=h! hW
  replace B2:=h! hB2
  replace B3:=h! hB3
  clear hall hnd hW hB2 hB3
  generalize wr=wj at *
  obtain ⟨lB2,cB2,fB2⟩:=B2.out
  obtain ⟨lB3,cB3,fB3⟩:=B3.out
  by_cases hlt:j < n
  ·have hne:=HA.out (by omega)
   obtain ⟨rfl,hbw⟩:=hne
   have h0:=(HW.out.cell hbw).trans (HX.out j hlt)
   have hjx:=eX src j (by have:=HN.out;omega)
   have HTS:=h! (eP src j _ hjx)
   have HM:=h! (aG hjx)
   have HJX:=h! hjx
   clear hjx
   obtain ⟨y,hy⟩ : ∃ y,y=src.getD j 0:=⟨_,rfl⟩
   rw [<-hy] at h0 HTS HM HJX
   have HYE:=h! hy
   clear hy
   cases hy1:decide (y < 0)
   ·cases hy2:decide ((nb:Int) <= y)
    ·have HY:Hid (numB nb y=true):=h! (by unfold numB;simp at hy1 hy2 ⊢;omega)
     go_upto_region 6 with (fail)
     go_quiet (fail)
     replace HW:=h! (eK HW.out nq)
     clear lB2 cB2 fB2 lB3 cB3 fB3
     replace B2:=h! (B2.out.drewN nq)
     replace B3:=h! (B3.out.drewN nq)
     clear h0 hy1 hy2
     generalize wj.drewN nq=wk at *
     obtain ⟨lB2,cB2,fB2⟩:=B2.out
     obtain ⟨lB3,cB3,fB3⟩:=B3.out
     go_wp2_with fail
     go_loopw [6] (fun i wr => ∃ k:Nat,k <= j/\i = .int .i64 k/\y ∉ src.take k/\Below w.heap.size w wr/\Box wr w.heap.size #[.slice ap np cp,.int .i64 ar,.int .i64 ce,.slice ab nb cb]/\Box wr (w.heap.size+1) #[.int .i64 id,.int .i64 2,.slice (some ⟨b,o,none⟩) n cf,.slice av n cv]) (fun i _=>j - (intOf i).toNat)
     case atStart=>exact ⟨0,aP _,rfl,by simp,HW.out,B2.out,B3.out⟩
     obtain ⟨k,hk,rfl,hno,hW,hB2,hB3⟩:=hrel
     clear lB2 cB2 fB2 lB3 cB3 fB3
     have HNO:=h! hno
     replace HW:=h! hW
     replace B2:=h! hB2
     replace B3:=h! hB3
     clear hno hW hB2 hB3
     obtain ⟨lB2,cB2,fB2⟩:=B2.out
     obtain ⟨lB3,cB3,fB3⟩:=B3.out
     by_cases hlt2:k < j
     ·have h1:wr.cell? ⟨b,o+j,none⟩=some (.int .i64 y):=by rw [HYE.out];exact (HW.out.cell hbw).trans (HX.out j hlt)
      have hkn:k < n:=by omega
      have h2:=(HW.out.cell hbw).trans (HX.out k hkn)
      have hkx:=eX src k (by have:=HN.out;omega)
      have HTS2:=h! (eP src k _ hkx)
      have HKM:Hid (src.getD k 0 ∈ src.take j):=h! (by
       rw [bJ];exact ⟨k,by rw [bE,if_pos hlt2];exact hkx⟩)
      clear hkx
      generalize src.getD k 0=z at *
      cases hzy:(z == y)
      ·have HZ:=h! hzy
       go_upto_region 11 with (fail)
       go_quiet (fail)
       go_wp2
       go_roundw
       case rel=>exact ⟨k+1,hlt2,by go_num,by rw [HTS2.out];have h3:=HZ.out;have h4:=HNO.out;simp at h3;simp [h4];exact fun e=>h3 e.symm,eK HW.out _,B2.out.drewN _,B3.out.drewN _⟩
       simp [intOf];omega
      have HZ:=h! hzy
      go_upto_region 11 with (fail)
      go_quiet (fail)
      go_wp2
      go_ret
      refine ⟨?_,eK HW.out _⟩
      have h3:z=y:=by simpa using HZ.out
      have h4:¬ src.Nodup:=fun hnd=>by
       have h5:(src.take (j+1)).Nodup:=List.Nodup.sublist (List.take_sublist _ _) hnd
       rw [HTS.out,cE] at h5
       exact h5.2.2 z HKM.out y (by simp) h3
      rw [HR.out,decide_eq_false h4,Bool.and_false]
      rfl
     obtain rfl:k=j:=by omega
     go_wp2
     go_roundw
     case rel=>exact ⟨k+1,hlt,by go_num,by rw [HTS.out,cX,HALL.out];simp [HY.out],by rw [HTS.out,cE];exact ⟨HND.out,by simp,fun x hx y2 hy2 e=>by simp at hy2;subst hy2;subst e;exact HNO.out hx⟩,HW.out,B2.out,B3.out⟩
     simp [intOf];omega
    have HY:Hid (numB nb y=false):=h! (by unfold numB;simp at hy1 hy2 ⊢;omega)
    go_upto_region 6 with (fail)
    go_quiet (fail)
    go_wp2
    go_ret
    exact ⟨by rw [HR.out,show src.all (numB nb)=false by (rw [bZ];exact ⟨y,HM.out,by rw [HY.out];simp⟩)];rfl,eK HW.out _⟩
   have HY:Hid (numB nb y=false):=h! (by unfold numB;simp at hy1 ⊢;omega)
   go_upto_region 6 with (fail)
   go_quiet (fail)
   go_wp2
   go_ret
   exact ⟨by rw [HR.out,show src.all (numB nb)=false by (rw [bZ];exact ⟨y,HM.out,by rw [HY.out];simp⟩)];rfl,eK HW.out _⟩
  obtain rfl:j=n:=by omega
  rw [aI (by have:=HN.out;omega)] at HALL HND
  go_wp2
  go_ret
  exact ⟨by rw [HR.out,HALL.out,decide_eq_true HND.out];rfl,HW.out⟩
theorem aHF {w:World} {ap ab:Option Addr} {np cp nb cb:Nat} {ar ce:Int} {x:PhiD} {af av:Option Addr} {cf cv:Nat} (hs:Ints w (.slice af x.src.length cf) x.src) :
  Calls Tryz.prog 179 #[.agg #[.slice ap np cp,.int .i64 ar,.int .i64 ce,.slice ab nb cb],.agg (phiA x af av cf cv)] w fun e w'=>e = .returned (.bool (iR nb x))/\Below w.heap.size w w':=by
 cases hg:((x.typ == 1 || x.typ == 2) && (x.src.length == x.vals.length))
 ·have hok:iR nb x=false:=by unfold iR;rw [hg];rfl
  rw [hok]
  exact aA7 (fv:=#[.nilIface,.nilIface,.nilIface,.nilIface]) rfl hg
 ·have hok:iR nb x=(x.src.all (numB nb) && decide x.src.Nodup):=by unfold iR;rw [hg];rfl
  rw [hok]
  simp only [aN,bQ,beq_iff_eq] at hg
  unfold phiA
  rw [<-hg.2]
  rcases hg.1 with h | h
  ·rw [h];exact aE5 rfl hs
  rw [h];exact aE6 rfl hs
end
end Go.Proofs.YtcmflfkpeodicaaGreat
