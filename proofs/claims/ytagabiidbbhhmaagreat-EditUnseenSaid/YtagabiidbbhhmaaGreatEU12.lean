/- Part 12. -/
import Derived.Test.YtagabiidbbhhmaaGreatEU11
namespace Go.Proofs.YtagabiidbbhhmaaGreat
set_option maxHeartbeats 6400000
set_option linter.all false
open Go.RowKit
theorem Turn.setCell {w:World} {b:Nat} (o:Nat) (v:Value):Turn [b] w (w.setCell ⟨b,o,none⟩ v) :=
 ⟨rfl,rfl,rfl,by simp [World.setCell],fun k hk hn=>Below.heap_setCell w ⟨b,o,none⟩ v k (by simpa using hn)⟩
theorem IMap.other {w:World} {b:Nat} {m:List (Int × Value)} (h:IMap w b m) {p:Addr} (v:Value) (hp:b ≠ p.block):IMap (w.setCell p v) b m:=h.keep (Below.heap_setCell w p v b hp)
structure OpenI (T:List (Int × Int)) (bc bm bq be:Nat) (A:Array Value) (us:List (Int × Int)) (W:World):Prop where
 map:IMap W bm (encT T)
 chk:Box W bc A
 ptr:Box W bq #[.pointer (some ⟨bc,0,none⟩)]
 err:Box W be #[.int .i64 (kS T us)]
theorem OpenI.later {T:List (Int × Int)} {bc bm bq be:Nat} {A:Array Value} {us:List (Int × Int)} {W W' : World} (h:OpenI T bc bm bq be A us W) (hb:Below W.heap.size W W'):OpenI T bc bm bq be A us W' :=
 ⟨h.map.later hb,h.chk.later hb,h.ptr.later hb,h.err.later hb⟩
theorem OpenI.set {T:List (Int × Int)} {bc bm bq be:Nat} {A:Array Value} {us:List (Int × Int)} {W:World} (h:OpenI T bc bm bq be A us W) (u:Int × Int) (x:Int) (hx:kS T (us ++ [u])=x) (hne:bm ≠ be/\bc ≠ be/\bq ≠ be) :
  OpenI T bc bm bq be A (us ++ [u]) (W.setCell ⟨be,0,none⟩ (.int .i64 x)) :=
 ⟨h.map.other _ hne.1,h.chk.other _ hne.2.1,h.ptr.other _ hne.2.2,by rw [hx];simpa using h.err.set 0 (.int .i64 x)⟩
theorem OpenI.same {T:List (Int × Int)} {bc bm bq be:Nat} {A:Array Value} {us:List (Int × Int)} {W:World} (h:OpenI T bc bm bq be A us W) (u:Int × Int) (hx:kS T (us ++ [u])=kS T us) :
  OpenI T bc bm bq be A (us ++ [u]) W:=⟨h.map,h.chk,h.ptr,by rw [hx];exact h.err⟩
theorem aE6 {W:World} {T:List (Int × Int)} {bc bm bq be:Nat} {vp vb:Value} {ar ce:Int} {us:List (Int × Int)} (u:Int × Int) (hne:bm ≠ be/\bc ≠ be/\bq ≠ be) (h:OpenI T bc bm bq be (chk vp vb ar ce bm) us W) :
  Calls Tryz.prog 138 #[.int .i64 u.1,.int .i64 u.2,.pointer (some ⟨bq,0,none⟩),.pointer (some ⟨be,0,none⟩)] W fun e W'=>e = .returned (.tuple #[])/\OpenI T bc bm bq be (chk vp vb ar ce bm) (us ++ [u]) W' /\ Turn [be] W W':=by
 have H:=h! h
 have ad:=h! hne
 have HU:=h! (xR T us u)
 obtain ⟨id,aa⟩:=u
 simp only at *
 have hq:=h.ptr.at 0 rfl
 have h4:=h.chk.at 4 (v:=.map (some bm)) rfl
 have he:=h.err
 have HI:=h! h.map
 have ab:=h! (gR T id)
 obtain ⟨x,hx⟩ : ∃ x,x=kS T us:=⟨_,rfl⟩
 rw [<-hx] at he HU
 have HX:=h! hx
 obtain ⟨le,hce,hfe⟩:=he
 clear h hne hx
 cases hty:tyOf T id with
 | none =>
  rw [hty] at ab
  have ac:Hid (kS T (us ++ [(id,aa)])=6):=h! (by rw [HU.out];unfold useE;simp only [hty])
  clear hty
  go_enter Tryz.func138,Tryz.ntmps138
  go_wp2_with (at_lookup;refine fQ (q:=.i64) (z:=.int .i64 0) (b:=bm) (mm:=encT T) (y:=id) rfl _ _ _ rfl Tryz.underlying93 Tryz.underlying3 (fY _) rfl HI.out rfl ?_;rw [ab.out])
  exact bodyPost_end (v:=.tuple #[]) (by simp [results,Tryz.results138,go_sem, *]) rfl ⟨rfl,H.out.set _ 6 ac.out ad.out,Turn.setCell _ _⟩
 | some t =>
  rw [hty] at ab
  have ac:Hid (kS T (us ++ [(id,aa)])=if aa ≠ 0/\t ≠ aa/\x=0 then 3 else x):=h! (by rw [HU.out];unfold useE;simp only [hty])
  clear hty
  cases h1:(aa != 0) <;> cases h2:(t != aa) <;> cases h3:(x == 0)
  all_goals
   have H1:=h! h1
   have H2:=h! h2
   have H3:=h! h3
   go_enter Tryz.func138,Tryz.ntmps138
   go_wp2_with (at_lookup;refine fQ (q:=.i64) (z:=.int .i64 0) (b:=bm) (mm:=encT T) (y:=id) rfl _ _ _ rfl Tryz.underlying93 Tryz.underlying3 (fY _) rfl HI.out rfl ?_;rw [ab.out])
   first
    | exact bodyPost_end (v:=.tuple #[]) (by simp [results,Tryz.results138,go_sem, *]) rfl ⟨rfl,H.out.set _ 3 (by rw [ac.out,if_pos];have e1:=H1.out;have e2:=H2.out;have e3:=H3.out;simp at e1 e2 e3;exact ⟨e1,e2,e3⟩) ad.out,Turn.setCell _ _⟩
    | exact bodyPost_end (v:=.tuple #[]) (by simp [results,Tryz.results138,go_sem, *]) rfl ⟨rfl,H.out.same _ (by rw [ac.out, <-HX.out,if_neg];have e1:=H1.out;have e2:=H2.out;have e3:=H3.out;simp at e1 e2 e3;rintro ⟨q1,q2,q3⟩;simp_all),Turn.refl _ _⟩
theorem xZ:Enters Tryz.prog 138:=enters_of Tryz.func138 (by kernel_rfl) rfl
theorem aBE {f:FuncD} (h:gW f=true):∀ b ∈ f.blocks, ∀ x ∈ b.code,x.args.length <= (shp0 x.op).args.length:=by
 intro b hb x hx
 unfold gW at h
 simp only [aK,aZ] at h
 obtain ⟨j,hj,rfl⟩:=dU hb
 have h1:=h.2 (f.blocks[j],j) (by rw [bJ];exact ⟨j,by simp [hj]⟩)
 unfold gA at h1
 simp only [aK,aZ] at h1
 have h2:=h1.1.2 x hx
 unfold fZ at h2
 simp only [aK,beq_iff_eq] at h2
 exact Nat.le_of_eq h2.1.1.2
def sP (f:FuncD) (w:World) (e:Ending) (w' : World):Prop :=
 Below w.heap.size w w' /\ ∃ m,e = .returned (.tuple #[.map m,.int .i64 (eV f)])/\(eV f=0 -> ∃ bm,m=some bm/\IMap w' bm (encT (fC f))/\w.heap.size <= bm)/\(eV f ≠ 0 -> m=none)
theorem sP.bad {f:FuncD} {w w' : World} {c:Int} (hb:Below w.heap.size w w') (hc:eV f=c) (h0:c ≠ 0):sP f w (.returned (.tuple #[.map none,.int .i64 c])) w':=by
 subst hc;exact ⟨hb,none,rfl,fun h=>absurd h h0,fun _=>rfl⟩
theorem sP.good {f:FuncD} {w w' : World} {bm:Nat} (hb:Below w.heap.size w w') (hc:eV f=0) (hm:IMap w' bm (encT (fC f))) (hl:w.heap.size <= bm):sP f w (.returned (.tuple #[.map (some bm),.int .i64 0])) w' :=
 ⟨hb,some bm,by rw [hc],fun _=>⟨bm,rfl,hm,hl⟩,fun h=>absurd hc h⟩
theorem aDE {w:World} {v:Value} {f:FuncD} (hv:fP w v f):Calls Tryz.prog 85 #[v] w (sP f w):=by
 obtain ⟨a,b,rfl,hp,ha,hc,hB⟩:=hv
 obtain ⟨ap,cp,rfl⟩:=hp.form
 obtain ⟨ab,cb,rfl⟩:=hB.form
 have HP:=h! hp
 have HB:=h! hB
 have br:Hid (eV f=if gW f && idsF f then kS (fC f) (nR f) else 2):=h! rfl
 have cg:=h! (aCT f)
 obtain ⟨c,bf⟩ : ∃ c,c=eV f:=⟨_,rfl⟩
 rw [<-bf] at br
 have HC:=h! bf
 have be:Hid (f.params.length=f.params.length):=h! rfl
 clear hp hB ha hc bf be
 obtain ⟨np,az⟩ : ∃ np,np=f.params.length:=⟨_,rfl⟩
 obtain ⟨nb,bb⟩ : ∃ nb,nb=f.blocks.length:=⟨_,rfl⟩
 obtain ⟨ar,bn⟩ : ∃ ar,ar=f.arrays:=⟨_,rfl⟩
 obtain ⟨ce,bt⟩ : ∃ ce,ce=f.cells:=⟨_,rfl⟩
 rw [<-az] at HP
 rw [<-bb] at HB
 rw [<-az, <-bb, <-bn, <-bt]
 have be:=h! az
 have bp:=h! bb
 have bo:=h! bn
 have bi:=h! bt
 clear az bb bn bt
 have ci:=@run_makeMap Tryz.prog
 go_enter Tryz.func85,Tryz.ntmps85
 go_upto_region 2 with (fail)
 clear ci
 have HI:Hid (IMap ((((w.alloc (.cells #[.slice ap np cp,.int .i64 ar,.int .i64 ce,.slice ab nb cb] 25)).alloc (.map #[] 0)).alloc (.cells #[.slice ap np cp,.int .i64 ar,.int .i64 ce,.slice ab nb cb,.map (some (w.heap.size+1))] 203)).alloc (.cells #[.pointer (some ⟨w.heap.size+1+1,0,none⟩)] 201)) (w.heap.size+1) []):=h! (by
  have h:=((IMap.new (w.alloc (.cells #[.slice ap np cp,.int .i64 ar,.int .i64 ce,.slice ab nb cb] 25))).alloc (.cells #[.slice ap np cp,.int .i64 ar,.int .i64 ce,.slice ab nb cb,.map (some (w.heap.size+1))] 203)).alloc (.cells #[.pointer (some ⟨w.heap.size+1+1,0,none⟩)] 201)
  simpa using h)
 have B1:Hid (Box ((((w.alloc (.cells #[.slice ap np cp,.int .i64 ar,.int .i64 ce,.slice ab nb cb] 25)).alloc (.map #[] 0)).alloc (.cells #[.slice ap np cp,.int .i64 ar,.int .i64 ce,.slice ab nb cb,.map (some (w.heap.size+1))] 203)).alloc (.cells #[.pointer (some ⟨w.heap.size+1+1,0,none⟩)] 201)) (w.heap.size) #[.slice ap np cp,.int .i64 ar,.int .i64 ce,.slice ab nb cb]):=h! ((((Box.new _ _ _).alloc _).alloc _).alloc _)
 have BC:Hid (Box ((((w.alloc (.cells #[.slice ap np cp,.int .i64 ar,.int .i64 ce,.slice ab nb cb] 25)).alloc (.map #[] 0)).alloc (.cells #[.slice ap np cp,.int .i64 ar,.int .i64 ce,.slice ab nb cb,.map (some (w.heap.size+1))] 203)).alloc (.cells #[.pointer (some ⟨w.heap.size+1+1,0,none⟩)] 201)) (w.heap.size+1+1) #[.slice ap np cp,.int .i64 ar,.int .i64 ce,.slice ab nb cb,.map (some (w.heap.size+1))]):=h! (by
  have h:=(Box.new ((w.alloc (.cells #[.slice ap np cp,.int .i64 ar,.int .i64 ce,.slice ab nb cb] 25)).alloc (.map #[] 0)) #[.slice ap np cp,.int .i64 ar,.int .i64 ce,.slice ab nb cb,.map (some (w.heap.size+1))] 203).alloc (.cells #[.pointer (some ⟨w.heap.size+1+1,0,none⟩)] 201)
  simpa using h)
 have BQ:Hid (Box ((((w.alloc (.cells #[.slice ap np cp,.int .i64 ar,.int .i64 ce,.slice ab nb cb] 25)).alloc (.map #[] 0)).alloc (.cells #[.slice ap np cp,.int .i64 ar,.int .i64 ce,.slice ab nb cb,.map (some (w.heap.size+1))] 203)).alloc (.cells #[.pointer (some ⟨w.heap.size+1+1,0,none⟩)] 201)) (w.heap.size+1+1+1) #[.pointer (some ⟨w.heap.size+1+1,0,none⟩)]):=h! (by
  have h:=Box.new (((w.alloc (.cells #[.slice ap np cp,.int .i64 ar,.int .i64 ce,.slice ab nb cb] 25)).alloc (.map #[] 0)).alloc (.cells #[.slice ap np cp,.int .i64 ar,.int .i64 ce,.slice ab nb cb,.map (some (w.heap.size+1))] 203)) #[.pointer (some ⟨w.heap.size+1+1,0,none⟩)] 201
  simpa using h)
 have HW:Hid (Below w.heap.size w ((((w.alloc (.cells #[.slice ap np cp,.int .i64 ar,.int .i64 ce,.slice ab nb cb] 25)).alloc (.map #[] 0)).alloc (.cells #[.slice ap np cp,.int .i64 ar,.int .i64 ce,.slice ab nb cb,.map (some (w.heap.size+1))] 203)).alloc (.cells #[.pointer (some ⟨w.heap.size+1+1,0,none⟩)] 201))):=h! (((((Below.refl _ _).alloc (aC _) _).alloc (by simp) _).alloc (by simp;omega) _).alloc (by simp;omega) _)
 generalize ((((w.alloc (.cells #[.slice ap np cp,.int .i64 ar,.int .i64 ce,.slice ab nb cb] 25)).alloc (.map #[] 0)).alloc (.cells #[.slice ap np cp,.int .i64 ar,.int .i64 ce,.slice ab nb cb,.map (some (w.heap.size+1))] 203)).alloc (.cells #[.pointer (some ⟨w.heap.size+1+1,0,none⟩)] 201))=w2 at *
 obtain ⟨bm,ba⟩ : ∃ bm,bm=w.heap.size+1:=⟨_,rfl⟩
 obtain ⟨bc,ay⟩ : ∃ bc,bc=w.heap.size+1+1:=⟨_,rfl⟩
 obtain ⟨bq,bk⟩ : ∃ bq,bq=w.heap.size+1+1+1:=⟨_,rfl⟩
 obtain ⟨b1,bg⟩ : ∃ b1,b1=w.heap.size:=⟨_,rfl⟩
 have n1:bc ≠ bm:=by omega
 have n2:bq ≠ bm:=by omega
 have n3:b1 ≠ bm:=by omega
 have n4:w.heap.size <= bm:=by omega
 rw [<-bk, <-ay] at BQ
 rw [<-ay, <-ba] at BC
 rw [<-ba] at HI
 have bv : Hid (Box w2 b1 #[.slice ap np cp,.int .i64 ar,.int .i64 ce,.slice ab nb cb]):=h! (by rw [bg];exact B1.out)
 clear B1
 have B1:=bv
 clear bv
 have N:=h! (show bc ≠ bm/\bq ≠ bm/\b1 ≠ bm/\w.heap.size <= bm from ⟨n1,n2,n3,n4⟩)
 simp only [<-bk]
 simp only [<-ay]
 simp only [<-ba]
 rw [show (Value.pointer (some ⟨w.heap.size,0,none⟩)) = .pointer (some ⟨b1,0,none⟩) by rw [bg]]
 clear bk ay ba bg n1 n2 n3 n4
 obtain ⟨af,ah,al⟩:=B1.out
 obtain ⟨ae,aq,an⟩:=BC.out
 obtain ⟨ad,aj,aw⟩:=BQ.out
 go_wp2_with fail
 clear af ah al ae aq an ad aj aw
 have aa:Hid (Calls Tryz.prog 136 #[.pointer (some ⟨bc,0,none⟩)] w2 (iN (sA f) bm w2)):=h! (aAZ (f:=f) (ap:=ap) (cp:=cp) (ab:=ab) (cb:=cb) HW.out N.out.2.2.2 N.out.1 (by rw [<-be.out, <-bp.out, <-bo.out, <-bi.out];exact BC.out) HI.out (by rw [<-be.out];exact HP.out) (by rw [<-bp.out];exact HB.out))
 rw [cg.out] at aa
 cases hfo:(gW f && idsF f)
 ·have ax:=h! hfo
  simp only [hfo,bM,if_false] at aa
  clear hfo
  have bs:Hid (c=2):=h! (by rw [br.out,ax.out];rfl)
  refine aa.out.mono ?_
  rintro e w3 ⟨rfl,h3,t3⟩
  have T3:=h! (HW.out.trans (t3.below HW.out.size (fun x hx=>by simp at hx;subst hx;exact N.out.2.2.2)))
  clear h3 t3
  go_wp2
  go_ret2
  exact sP.bad T3.out (by rw [<-HC.out,bs.out]) (by decide)
 have ax:=h! hfo
 simp only [hfo,if_true] at aa
 clear hfo
 have bs:Hid (c=kS (fC f) (nR f)):=h! (by rw [br.out,ax.out];rfl)
 refine aa.out.mono ?_
 rintro e w3 ⟨rfl,h3,t3⟩
 have T3:=h! t3
 replace HI:=h! (h3 _ rfl)
 replace HW:=h! (HW.out.trans (t3.below HW.out.size (fun x hx=>by simp at hx;subst hx;exact N.out.2.2.2)))
 replace B1:=h! (B1.out.turn t3 (by simpa using N.out.2.2.1))
 replace BC:=h! (BC.out.turn t3 (by simpa using N.out.1))
 replace BQ:=h! (BQ.out.turn t3 (by simpa using N.out.2.1))
 clear h3 t3 aa
 have ao:=h! (⟨HI.out.lt,BC.out.lt,BQ.out.lt,HW.out.size⟩ : bm < w3.heap.size/\bc < w3.heap.size/\bq < w3.heap.size/\w.heap.size <= w3.heap.size)
 obtain ⟨af,ah,al⟩:=B1.out
 obtain ⟨ae,aq,an⟩:=BC.out
 obtain ⟨ad,aj,aw⟩:=BQ.out
 go_upto_region 5 with (fail)
 have ai:w3.heap.size ≠ b1:=fun e=>by have:=af;omega
 have nB1BE:b1 ≠ w3.heap.size:=fun e=>ai e.symm
 have am:w3.heap.size ≠ bc:=fun e=>by have:=ae;omega
 have nBCBE:bc ≠ w3.heap.size:=fun e=>am e.symm
 have ak:w3.heap.size ≠ bq:=fun e=>by have:=ad;omega
 have nBQBE:bq ≠ w3.heap.size:=fun e=>ak e.symm
 clear af ah al ae aq an ad aj aw
 have ag:=(Below.refl w3.heap.size w3).alloc (aC _) (.cells #[.int .i64 0] 26)
 replace B1:=h! (B1.out.later ag)
 replace BC:=h! (BC.out.later ag)
 replace BQ:=h! (BQ.out.later ag)
 replace HI:=h! (HI.out.later ag)
 replace HW:=h! (HW.out.trans (ag.mono HW.out.size))
 clear ag
 have BE:=h! (Box.new w3 #[.int .i64 0] 26)
 generalize w3.alloc (.cells #[.int .i64 0] 26)=w4 at *
 obtain ⟨af,ah,al⟩:=B1.out
 obtain ⟨ae,aq,an⟩:=BC.out
 obtain ⟨ad,aj,aw⟩:=BQ.out
 obtain ⟨bO,cf,ch⟩:=BE.out
 go_wp2_with fail
 clear af ah al ae aq an ad aj aw bO cf ch
 have ac:Hid (Calls Tryz.prog 137 #[.agg #[.slice ap np cp,.int .i64 ar,.int .i64 ce,.slice ab nb cb],.func (.func 138) #[] #[.pointer (some ⟨bq,0,none⟩),.pointer (some ⟨w3.heap.size,0,none⟩)]] w4
   (aFS (nR f) [w3.heap.size] (OpenI (fC f) bc bm bq w3.heap.size (chk (.slice ap np cp) (.slice ab nb cb) ar ce bm)) w4)):=h! (by
  rw [bo.out,bi.out]
  refine aFT (w:=w) HW.out bp.out HB.out (aBE (by have:=ax.out;simp at this;exact this.1)) _ _ xZ [w3.heap.size] (fun b hb=>by simp at hb;subst hb;exact ⟨ao.out.2.2.2,BE.out.lt⟩) _ ?_ (fun us W W' h hb=>h.later hb) ?_
  ·refine ⟨HI.out, ?_,BQ.out,BE.out⟩
   rw [<-bo.out, <-bi.out];exact BC.out
  ·intro us u W h1 h2
   exact aE6 u ⟨by have:=ao.out;omega,by have:=ao.out;omega,by have:=ao.out;omega⟩ h1)
 refine ac.out.mono ?_
 rintro e w5 ⟨rfl,cc,bw⟩
 obtain ⟨bx,bj,bl,bd⟩:=cc
 rw [<-bs.out] at bd
 have bz:=h! (HW.out.trans (bw.below HW.out.size (fun x hx=>by simp at hx;subst hx;exact ao.out.2.2.2)))
 have ca:=h! bx
 have BC5:=h! bj
 have BQ5:=h! bl
 have BE5:=h! bd
 have e0:=bd.at 0 (v:=.int .i64 c) rfl
 have e1:=bl.at 0 (v:=.pointer (some ⟨bc,0,none⟩)) rfl
 have e2:=bj.at 4 (v:=.map (some bm)) rfl
 clear bw bx bj bl bd ac
 cases hc0:(c == 0)
 ·have bh:=h! hc0
  have cd:(c != 0)=true:=by simp [bne,hc0]
  go_upto_region 7 with (fail)
  go_quiet (fail)
  go_wp2
  go_ret2
  exact sP.bad (eT bz.out _) HC.out.symm (by have:=bh.out;simpa using this)
 have bh:Hid (c=0):=h! (by simpa using hc0)
 have cd:(c != 0)=false:=by simp [bne,hc0]
 go_wp2
 go_ret2
 exact sP.good bz.out (by rw [<-HC.out,bh.out]) ca.out N.out.2.2.2
theorem aBF {w:World} {v:Value} {f:FuncD} (hv:fP w v f):Calls Tryz.prog 68 #[v] w fun e w'=>e = .returned (.int .i64 (eV f))/\Below w.heap.size w w':=by
 have HV:=h! hv
 obtain ⟨a,b,rfl,hp,ha,hc,hB⟩:=hv
 obtain ⟨ap,cp,rfl⟩:=hp.form
 obtain ⟨ab,cb,rfl⟩:=hB.form
 clear hp ha hc hB
 go_enter Tryz.func68,Tryz.ntmps68
 go_upto_region 1 with (fail)
 have aa:=(Below.refl w.heap.size w).alloc (aC _) (.cells #[.slice ap f.params.length cp,.int .i64 f.arrays,.int .i64 f.cells,.slice ab f.blocks.length cb] 25)
 have HW:=h! aa
 clear aa
 have B1:=h! (Box.new w #[.slice ap f.params.length cp,.int .i64 f.arrays,.int .i64 f.cells,.slice ab f.blocks.length cb] 25)
 generalize w.alloc (.cells #[.slice ap f.params.length cp,.int .i64 f.arrays,.int .i64 f.cells,.slice ab f.blocks.length cb] 25)=wv at *
 obtain ⟨lB1,cB1,fB1⟩:=B1.out
 go_wp2_with fail
 refine (aDE (HV.out.below HW.out)).mono ?_
 rintro e w2 ⟨hb,m,rfl,_,_⟩
 have HB:=h! (HW.out.trans (hb.mono HW.out.size))
 clear hb
 go_wp2
 go_ret
 exact ⟨rfl,HB.out⟩
def aGL (f:FuncD):Int:=if eV f=0 then kY f else 0
end Go.Proofs.YtagabiidbbhhmaaGreat
