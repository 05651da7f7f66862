/- Part 51. -/
import Derived.Test.YtagabiidbbhhmaaGreatEU49
namespace Go.Proofs.YtagabiidbbhhmaaGreat
set_option linter.all false
section
open Go.RowKit
def putT (T:List (Int × Int)) (k v:Int):List (Int × Int):=if (tyOf T k).isSome then T.map (fun p=>if p.1=k then (k,v) else p) else T ++ [(k,v)]
theorem nE (T:List (Int × Int)) (k v:Int):mput (encT T) k (.int .i64 v)=encT (putT T k v):=by
 unfold mput putT
 rw [gR,Option.isSome_map]
 split
 ·simp only [encT,cO]
  apply dB
  intro p _
  simp only [Function.comp]
  split <;> rfl
 simp [encT]
theorem aCY {T:List (Int × Int)} {k v:Int} {z:Int × Int} (h:z ∈ putT T k v):z ∈ T \/ z.2=v:=by
 unfold putT at h
 split at h
 ·obtain ⟨p,hp,rfl⟩:=bB.1 h
  split
  ·exact .inr rfl
  exact .inl hp
 rcases aL.1 h with h | h
 ·exact .inl h
 rw [cN.1 h];exact .inr rfl
theorem pE {T:List (Int × Int)} {k v:Int} (h:∀ z ∈ T,In64 z.2) (hv:In64 v):∀ z ∈ putT T k v,In64 z.2:=fun z hz=>by
 rcases aCY hz with h1 | h1
 ·exact h z h1
 rw [h1];exact hv
theorem aBB (T:List (Int × Int)) (k v j:Int):tyOf (putT T k v) j=if j=k then some v else tyOf T j:=by
 have h:=oI (encT T) k j (.int .i64 v)
 rw [nE,gR,gR] at h
 split at h
 ·rename_i e
  rw [if_pos e]
  cases ht:tyOf (putT T k v) j with
  | none=>rw [ht] at h;cases h
  | some a=>rw [ht] at h;simp at h;rw [h]
 rename_i e
 rw [if_neg e]
 cases ht:tyOf (putT T k v) j with
 | none=>cases hu:tyOf T j with
  | none=>rfl
  | some b=>rw [ht,hu] at h;cases h
 | some a=>cases hu:tyOf T j with
  | none=>rw [ht,hu] at h;cases h
  | some b=>rw [ht,hu] at h;simp at h;rw [h]
def iJ (nb n:Nat):List Int:=(List.range n).map fun i=>((nb+i:Nat):Int)
theorem tY (nb n:Nat):iJ nb (n+1)=iJ nb n ++ [((nb+n:Nat):Int)]:=by simp [iJ,eQ]
theorem lY (nb n:Nat):(iJ nb n).length=n:=by simp [iJ]
theorem aBC {nb n i:Nat} (h:i < n):(iJ nb n)[i]? = some ((nb+i:Nat):Int):=by simp [iJ,dL h]
def aE2 (f:FuncD) (L:List Nat) (w:World) (e:Ending) (w' : World):Prop :=
 ∃ (gv cv:Value) (mb:Nat) (S S2:Foot) (g:FuncD),e = .returned (.tuple #[gv,cv,.map (some mb)])/\OFunc w' S gv g/\eR w' S2 cv (iJ f.blocks.length L.length)/\S.off S2/\kC w.heap.size S/\kC w.heap.size S2/\Below w.heap.size w w' /\
  g.blocks.length=f.blocks.length+L.length /\ ∀ i b,L[i]? = some b -> ∃ x y,f.blocks[b]? = some x/\g.blocks[f.blocks.length+i]? = some y/\kJ x y
theorem eX.phi {W:World} {S:Foot} {v:Value} {xs:List BlockD} (h:eX W S v xs) {i k:Nat} {x:BlockD} {p:PhiD} (hi:xs[i]? = some x) (hk:x.phis[k]? = some p) :
  ∃ (g cap gp cpx:Nat) (af av:Option Addr) (cf cv:Nat) (ds:List Value) (G Sf Sv:Foot),v = .slice (some ⟨g,0,none⟩) xs.length cap/\g < W.heap.size/\W.cell? ⟨g,i * 6,none⟩=some (.slice (some ⟨gp,0,none⟩) x.phis.length cpx)/\gp < W.heap.size/\(∀ o,W.frozen? ⟨gp,o,none⟩=false) /\
   PhiC W gp (k * 4) p af av cf cv/\ds[k * 4+2]? = some (.slice af p.src.length cf)/\ds[k * 4+3]? = some (.slice av p.vals.length cv)/\ORow W G 78 4 (.slice (some ⟨gp,0,none⟩) x.phis.length cpx) x.phis.length ds /\
   eR W Sf (.slice af p.src.length cf) p.src/\eR W Sv (.slice av p.vals.length cv) p.vals/\G gp/\Sf.off Sv/\Sf.off G/\Sv.off G/\(∀ q,G q -> S q/\q ≠ g)/\(∀ q,Sf q -> S q/\q ≠ g)/\(∀ q,Sv q -> S q/\q ≠ g) /\
   ∀ (W' : World) (u2 u3:Value) (src vals:List Int) (T1 T2:Foot),Off (G.or (Sf.or Sv)) W W' -> ORow W' G 78 4 (.slice (some ⟨gp,0,none⟩) x.phis.length cpx) x.phis.length ((ds.set (k * 4+2) u2).set (k * 4+3) u3) -> eR W' T1 u2 src -> eR W' T2 u3 vals -> T1.off T2 ->
    (∀ q,T1 q -> Sf q \/ W.heap.size <= q) -> (∀ q,T2 q -> Sv q \/ W.heap.size <= q) -> ∃ S',eX W' S' v (xs.set i { x with phis:=x.phis.set k { p with src:=src,vals:=vals } }) /\ ∀ q,S' q -> S q \/ W.heap.size <= q:=by
 obtain ⟨g,cap,ap,ai,at_,cp,ci,ct,S1,S2,S3,hv,ar, -,hC, -,aq, -, -,i1, -, -, -, -, -,bc,am, -, -⟩:=h.open hi
 obtain ⟨gp,cpx,af,av,cf,cv,ds,G,Sf,Sv,ah,ac,al,ak,hP,ay,ao,aw,ab,ba,ax,ad,ae,az,an,bb,aa⟩:=aq.open hk
 have aj:=hC.c0
 rw [ah] at aj ab aa
 have ag:∀ q,S1 q -> S q/\q ≠ g:=fun q hq=>⟨i1 q hq,fun e=>bc.1 (by rw [<-e];exact hq)⟩
 refine ⟨g,cap,gp,cpx,af,av,cf,cv,ds,G,Sf,Sv,hv,ar,aj,ac,ay,hP,ao,aw,ab,ba,ax,al,az,an,bb,fun q h=>ag q (ak q h),fun q h=>ag q (ad q h),fun q h=>ag q (ae q h),fun W' u2 u3 src vals T1 T2 ho hr k1 k2 k12 t1 t2 => ?_⟩
 have h9:=aa W' u2 u3 src vals T1 T2 ho hr k1 k2 k12 t1 t2
 rw [<-ah] at h9
 have hT:∀ q,(S1 q \/ T1 q \/ T2 q) -> S1 q \/ W.heap.size <= q:=fun q h=>by
  rcases h with h | h | h
  ·exact .inl h
  ·exact (t1 q h).imp (ad q) id
  exact (t2 q h).imp (ae q) id
 exact ⟨_,am W' _ _ (ho.mono fun q _ h=>h.elim (ak q) (fun h=>h.elim (ad q) (ae q))) h9 hT,fun q h=>h.elim .inl (fun h=>(hT q h).imp (i1 q) id)⟩
end
section
open Go.RowKit
private theorem fN.alloc {w0 W:World} (h:fN w0 W) (o:Obj):fN w0 (W.alloc o):=h.later ((Below.refl _ _).alloc (aC _) o)
theorem sM {α : Type} {R:World -> Foot -> List Value -> α -> Prop} (hR:Nice R) {P:Program} {w:World} {o:Oper} {a:Act} (s x:Operand) (t e:TypeId)
  (ho:o.op = .call { callee:=.builtin .append,args:=#[s,x],argTypes:=#[t,t] }) {z:Value} {size bytes:Nat} (he:Elem P t e z size bytes)
  {v:Value} {B:Nat} {ds:List Value} (hs:a.eval s=v) (hx:a.eval x = .slice (some ⟨B,0,none⟩) 1 1) {bs:List Nat} {base:Nat} {S Fn:Foot} {xs:List α} {y : α} {n:Nat} (hn:xs.length=n)
  (H:Holds bs base w S (fun W=>OSl R e size W S v xs)) (hB:Box w B ds.toArray) (hds:ds.length=size) (hel:R w Fn ds y) (hF:Fn.off S) (hFb:kC base Fn) (hbs:∀ b ∈ bs,b < base) (hbase:base <= w.heap.size)
  (h1:∀ u ∈ ds,u.oneCell' = true) (hlen:n+1 <= 17592186044416) (hbytes:(n+1) * bytes <= 140737488355328) {XF:Nat -> Foot} {i lim:Nat} (hFl:∀ k,Fn k -> lim <= k) (hl:lim <= w.heap.size) (hX:∀ k,S k -> XF i k) {Z:Value -> World -> Prop}
  (hZ:∀ u w'' S',Holds bs base w'' S' (fun W=>OSl R e size W S' u (xs ++ [y])) -> (∀ k,S' k -> S k \/ lim <= k) -> (∃ g cap,u = .slice (some ⟨g,0,none⟩) (n+1) cap) -> Z u w'') :
  ∃ u w'',(execOp a.eval o).run P w = .ok (.value u) w'' /\ Z u w'' /\ Four.Step XF (fun _=>True) i w w'':=by
 obtain ⟨u,w'',r1,⟨S',r2,r3,r4⟩,r5⟩:=uB (XF:=XF) (i:=i) hR s x t e ho he hs hx hn H hB hds hel hF hFb hbs hbase h1 hlen hbytes hFl hl hX
 exact ⟨u,w'',r1,hZ u w'' S' r2 r3 r4,r5⟩
set_option maxHeartbeats 25600000 in
set_option maxRecDepth 100000 in
theorem aE3 {w:World} {v lv:Value} {f:FuncD} {L:List Nat} (hv:fP w v f) (hc:eV f=0) (hl:Ints w lv (natI L)) (hin:∀ b ∈ L,b < f.blocks.length) (hn:L.length <= 512):Calls Tryz.prog 67 #[v,lv] w (aE2 f L w):=by
 have HV:=h! hv
 obtain ⟨ap,cp,ab,cb,rfl,hp,ha,kf,hB⟩:=hv.form
 obtain ⟨a2,c2,bb,bo,ri,rv,hbm,rr,ng,jd⟩:=eW hB
 cases ri
 obtain ⟨la,lc,lb,lo,rfl,ro,hlm,kP,me⟩:=hl.parts
 have rl:=h! hc
 have HF:=h! (eY hc).1
 have io:=h! (mK hc)
 have qo:Hid (∀ x ∈ f.blocks, ∀ p ∈ x.phis,p.src.length=p.vals.length/\p.src.length <= 512):=h! (fun x hx p hp=>by
  have h9:=(jP HF.out).phi x hx p hp
  exact ⟨h9.1,by omega⟩)
 obtain ⟨np,iz⟩ : ∃ np,np=f.params.length:=⟨_,rfl⟩
 obtain ⟨ar,ja⟩ : ∃ ar,ar=f.arrays:=⟨_,rfl⟩
 obtain ⟨ce,jo⟩ : ∃ ce,ce=f.cells:=⟨_,rfl⟩
 obtain ⟨nb,fx⟩ : ∃ nb,nb=f.blocks.length:=⟨_,rfl⟩
 obtain ⟨n,fM⟩ : ∃ n,n=L.length:=⟨_,rfl⟩
 rw [fE, <-fM] at ro kP me
 rw [<-fx] at rv ng rr hin
 rw [<-fM] at hn
 rw [<-fx, <-iz, <-ja, <-jo] at HV
 rw [fE, <-fM, <-fx, <-iz, <-ja, <-jo]
 have hn1:1 <= nb:=by rw [fx];exact (gG HF.out).1
 have h512:nb <= 512:=by rw [fx];exact (gG HF.out).2
 obtain ⟨rfl,gi⟩:=ng (by omega)
 have jf:Hid (∀ (i b:Nat),L[i]? = some b -> w.cell? ⟨lb,lo+i,none⟩=some (.int .i64 (b:Int))):=h! (fun i b hi=>by
  rw [me i (by rw [fM];exact (aD.1 hi).1)]
  rw [getD_some (x:=(b:Int)) (by unfold natI;rw [aO,hi];rfl)])
 have js:=h! kP
 have ln:=h! hin
 have mi:=h! jd
 have co:=h! fx
 have qv:=h! iz
 have fg:=h! fM
 have jq:Hid (ar=f.arrays/\ce=f.cells):=h! ⟨ja,jo⟩
 clear hp ha kf hB hv iz fx ja jo hc hl me kP hin jd ng fM
 go_enter Tryz.func67,Tryz.ntmps67
 go_upto_region 1 with (fail)
 have ax:=(Below.refl w.heap.size w).alloc (aC _) (.cells #[.slice ap np cp,.int .i64 ar,.int .i64 ce,.slice (some ⟨bb,bo,none⟩) nb cb] 25)
 have HW:=h! ax
 clear ax
 have B2:=h! (Box.new w #[.slice ap np cp,.int .i64 ar,.int .i64 ce,.slice (some ⟨bb,bo,none⟩) nb cb] 25)
 have cj:(w.alloc (.cells #[.slice ap np cp,.int .i64 ar,.int .i64 ce,.slice (some ⟨bb,bo,none⟩) nb cb] 25)).heap.size=w.heap.size+1:=World.size_alloc _ _
 generalize w.alloc (.cells #[.slice ap np cp,.int .i64 ar,.int .i64 ce,.slice (some ⟨bb,bo,none⟩) nb cb] 25)=gx at *
 have ax:=(Below.refl gx.heap.size gx).alloc (aC _) (.cells #[.slice none 0 0,.int .i64 0,.int .i64 0,.slice none 0 0] 25)
 replace B2:=h! (B2.out.later ax)
 replace HW:=h! (HW.out.trans (ax.mono HW.out.size))
 clear ax
 have B4:=h! (Box.new gx #[.slice none 0 0,.int .i64 0,.int .i64 0,.slice none 0 0] 25)
 rw [cj] at B4
 have dr:(gx.alloc (.cells #[.slice none 0 0,.int .i64 0,.int .i64 0,.slice none 0 0] 25)).heap.size=w.heap.size+1+1:=by rw [World.size_alloc,cj]
 clear cj
 generalize gx.alloc (.cells #[.slice none 0 0,.int .i64 0,.int .i64 0,.slice none 0 0] 25)=jl at *
 have ax:=(Below.refl jl.heap.size jl).alloc (aC _) (.cells #[.map none] 93)
 replace B2:=h! (B2.out.later ax)
 replace B4:=h! (B4.out.later ax)
 replace HW:=h! (HW.out.trans (ax.mono HW.out.size))
 clear ax
 have B6:=h! (Box.new jl #[.map none] 93)
 rw [dr] at B6
 clear dr
 generalize jl.alloc (.cells #[.map none] 93)=wv at *
 obtain ⟨aj,ah,ai⟩:=B2.out
 obtain ⟨ao,aq,aw⟩:=B4.out
 obtain ⟨ak,al,am⟩:=B6.out
 go_wp2_with fail
 refine (aDF (HV.out.below HW.out) io.out.1 io.out.2).mono ?_
 rintro e w1 ⟨vo,SO0,rfl,si,nx,hb⟩
 obtain ⟨⟨pa,bv,SQ,SB,rfl,hQ,se,qg,qr,qp⟩,bs,iq,hg⟩:=si
 obtain ⟨ay,az,rfl⟩:=hQ.ints.form
 have qc:=h! (And.intro iq hg)
 have hl1:w.heap.size+1+1 < wv.heap.size:=ak
 have HQ:Hid (Holds [w.heap.size,w.heap.size+1,w.heap.size+1+1] wv.heap.size w1 SQ (fun W=>eR W SQ (.slice ay np az) f.params)):=h! (by
  have h9:=(gF hQ (fun k hk=>nx k (qr k hk))).low (bs':=[w.heap.size,w.heap.size+1,w.heap.size+1+1]) (by intro z hz;simp at hz;omega)
  rw [<-qv.out] at h9;exact h9)
 obtain ⟨cs,G,F,hp⟩:=se
 obtain ⟨g,cap,ph,ip, -, -, -, -, -⟩:=hp.row.addr (by have:=co.out;omega)
 rw [<-co.out] at ph
 subst ph
 have gw:eX w1 SB (.slice (some ⟨g,0,none⟩) nb cap) f.blocks:=⟨cs,G,F,hp⟩
 have HP:Hid (Holds [w.heap.size,w.heap.size+1,w.heap.size+1+1] wv.heap.size w1 SB (fun W=>eX W SB (.slice (some ⟨g,0,none⟩) nb cap) f.blocks)):=h!
  ((jE OBlock.nice gw (fun k hk=>nx k (qp k hk))).low (by intro z hz;simp at hz;omega))
 have sj:=h! (hp.inG g ip)
 have sh:=h! qg
 rw [<-jq.out.1, <-jq.out.2, <-qv.out]
 clear hQ hp gw qg qr qp bs nx iq hg ip
 clear aj ah ai ao aq aw ak al am
 replace B2:=h! (B2.out.later hb)
 replace B4:=h! (B4.out.later hb)
 replace B6:=h! (B6.out.later hb)
 replace HW:=h! (HW.out.trans (hb.mono HW.out.size))
 clear hb
 obtain ⟨aj,ah,ai⟩:=B2.out
 obtain ⟨ao,aq,aw⟩:=B4.out
 obtain ⟨ak,al,am⟩:=B6.out
 have kr:=@run_makeMap Tryz.prog
 go_upto_region 2 with (fail)
 clear aj ah ai ao aq aw ak al am
 have bh:=((((Only.set w1 (w.heap.size+1) 0 (.slice ay np az)).put 1 (.int .i64 ar)).put 2 (.int .i64 ce)).put 3 (.slice (some ⟨g,0,none⟩) nb cap))
 replace B2:=h! (B2.out.only bh (by first | assumption | (simp;done) | omega))
 replace B6:=h! (B6.out.only bh (by first | assumption | (simp;done) | omega))
 replace HQ:=h! ((((HQ.out.other (p:=⟨w.heap.size+1,0,none⟩) (.slice ay np az) (by simp)).other (p:=⟨w.heap.size+1,1,none⟩) (.int .i64 ar) (by simp)).other (p:=⟨w.heap.size+1,2,none⟩) (.int .i64 ce) (by simp)).other (p:=⟨w.heap.size+1,3,none⟩) (.slice (some ⟨g,0,none⟩) nb cap) (by simp))
 replace HP:=h! ((((HP.out.other (p:=⟨w.heap.size+1,0,none⟩) (.slice ay np az) (by simp)).other (p:=⟨w.heap.size+1,1,none⟩) (.int .i64 ar) (by simp)).other (p:=⟨w.heap.size+1,2,none⟩) (.int .i64 ce) (by simp)).other (p:=⟨w.heap.size+1,3,none⟩) (.slice (some ⟨g,0,none⟩) nb cap) (by simp))
 replace HW:=h! (bh.2.2 HW.out (by first | assumption | omega | (have:=HW.out.size;omega) | (simp;done) | (simp;omega)))
 replace B4:=h! (Box.to (A':=#[(.slice ay np az),(.int .i64 ar),(.int .i64 ce),(.slice (some ⟨g,0,none⟩) nb cap)]) ((((B4.out.set 0 (.slice ay np az)).set 1 (.int .i64 ar)).set 2 (.int .i64 ce)).set 3 (.slice (some ⟨g,0,none⟩) nb cap)) (by first | rfl | simp))
 clear bh
 generalize ((((w1.setCell ⟨w.heap.size+1,0,none⟩ (.slice ay np az)).setCell ⟨w.heap.size+1,1,none⟩ (.int .i64 ar)).setCell ⟨w.heap.size+1,2,none⟩ (.int .i64 ce)).setCell ⟨w.heap.size+1,3,none⟩ (.slice (some ⟨g,0,none⟩) nb cap))=w2 at *
 obtain ⟨aj,ah,ai⟩:=B2.out
 obtain ⟨ao,aq,aw⟩:=B4.out
 obtain ⟨ak,al,am⟩:=B6.out
 have ll:=HP
 have kk:=HQ
 go_upto_region 3 with (fail)
 have HI:=h! (IMap.new w2)
 have bk:=(Below.refl w2.heap.size w2).alloc (aC _) (.map #[] 0)
 clear aj ah ai ao aq aw ak al am
 replace B2:=h! (B2.out.later bk)
 replace B4:=h! (B4.out.later bk)
 replace B6:=h! (B6.out.later bk)
 replace HQ:=h! (HQ.out.later bk)
 replace HP:=h! (HP.out.later bk)
 replace HW:=h! (HW.out.trans (bk.mono HW.out.size))
 clear bk
 obtain ⟨aj,ah,ai⟩:=B2.out
 obtain ⟨ao,aq,aw⟩:=B4.out
 obtain ⟨ak,al,am⟩:=B6.out
 obtain ⟨pm,iy⟩ : ∃ pm,pm=w2.heap.size:=⟨_,rfl⟩
 have bi:Hid ((∀ k,SB k -> wv.heap.size <= k/\k < w2.heap.size)/\SQ.off SB /\ ∀ k,SQ k -> wv.heap.size <= k/\k < w2.heap.size):=h! ⟨fun k hk=>⟨ll.out.base k hk,ll.out.lt k hk⟩,sh.out,fun k hk=>⟨kk.out.base k hk,kk.out.lt k hk⟩⟩
 rw [<-iy] at HI bi
 clear ll kk
 simp only [<-iy]
 have hs3:(w2.alloc (.map #[] 0)).heap.size=pm+1:=by rw [World.size_alloc,iy]
 clear iy kr
 generalize w2.alloc (.map #[] 0)=w3 at *
 have hvpm:wv.heap.size <= pm:=by have:=bi.out.1 g sj.out;omega
 go_wp2_with fail
 clear aj ah ai ao aq aw ak al am
 --@A
 go_loopw [5,33] (fun cv iv wr => ∃ (i:Nat) (T:Foot) (a1:Option Addr) (c1:Nat) (P:List (Int × Int)),i <= n/\iv = .int .i64 i/\cv = .slice a1 i c1/\eR wr T (.slice a1 i c1) (iJ nb i)/\(∀ k,T k -> w3.heap.size <= k)/\IMap wr pm (encT P)/\(∀ z ∈ P,In64 z.2)/\Off (Foot.one pm) w3 wr) (fun _ iv _=>n - (intOf iv).toNat)
 case atStart=>exact ⟨0,Foot.none,none,0,[],aH _,rfl,rfl,eR.nil none,fun _ h=>h.elim,HI.out,(fun z h=>by cases h),Off.refl _ _⟩
 obtain ⟨i,T,a1,c1,P,hi,rfl,rfl,ht,ql,hI,hU,bd⟩:=hrel
 have HT:=h! ht
 have fv:=h! ql
 replace HI:=h! hI
 have eo:=h! hU
 have bj:=h! bd
 clear ht ql hI hU bd
 generalize wr=w4 at *
 have ko:w3.heap.size <= w4.heap.size:=bj.out.size
 replace HW:=h! (HW.out.trans (bj.out.below HW.out.size (fun k _ hk=>by have e:k=pm:=hk;omega)))
 replace B2:=h! (B2.out.off bj.out (fun h=>by have e:w.heap.size=pm:=h;omega))
 by_cases bs:i < n
 ·obtain ⟨b,bn⟩ : ∃ b,L[i]? = some b:=⟨_,aB (by rw [<-fg.out];exact bs)⟩
  obtain ⟨rfl,fb⟩:=js.out (by omega)
  have kl:=(HW.out.cell (p:=⟨lb,lo+i,none⟩) fb).trans (jf.out i b bn)
  have HG:Hid (mget (encT (putT P (b:Int) ((nb+i:Nat):Int))) (b:Int)=some (.int .i64 ((nb+i:Nat):Int))):=h! (by rw [gR,aBB,if_pos rfl];rfl)
  have hA:Hid (In64 ((nb+i:Nat):Int)):=h! ⟨by omega,by omega⟩
  have jw:Hid ((iJ nb i).length=i):=h! (lY nb i)
  clear bn
  obtain ⟨aj,ah,ai⟩:=B2.out
  go_upto_region 7 with (at_mapUpdate;refine fJ (q:=.i64) (b:=pm) (mm:=encT P) (y:=(b:Int)) rfl _ _ _ _ (.inl rfl) Tryz.underlying93 Tryz.underlying3 rfl HI.out rfl ?_;intro w5 dw rp pp;have oy:Hid (IMap w5 pm (encT (putT P (b:Int) ((nb+i:Nat):Int)))):=h! (by rw [<-nE];exact dw);have mq:=h! pp;clear dw rp pp)
  clear aj ah ai
  clear kl
  have hz5:w4.heap.size <= w5.heap.size:=mq.out.size
  have sn:Hid (eR w5 T (.slice a1 i c1) (iJ nb i)):=h! (HT.out.off mq.out.off (fun q h1 h2=>by have e:q=pm:=h2;have:=fv.out q h1;omega))
  --@A1
  go_wp2_with (first | (at_lookup;refine lI (q:=.i64) (z:=.int .i64 0) (b:=pm) (mm:=encT (putT P (b:Int) ((nb+i:Nat):Int))) (y:=(b:Int)) rfl _ _ _ rfl Tryz.underlying93 Tryz.underlying3 (fY _) rfl oy.out rfl ?_;rw [HG.out];simp only [dI]) | (at_builtin;go_loud (refine oM rfl _ _ rfl rfl rfl jw.out (sn.out.off (Off.alloc Foot.none _ _) (fun _ _ h=>h)) (Box.new _ _ _) hA.out (by omega) ?_);intro g5 c5 w6 hO hG bd;have sq:=h! hO;have rj:=h! hG;have ih:=h! bd;clear hO hG bd))
  --@A2
  go_roundw
  case rel =>
   refine ⟨i+1,Foot.one g5,some ⟨g5,0,none⟩,c5,putT P (b:Int) ((nb+i:Nat):Int),bs,by go_num,rfl,by rw [tY];exact sq.out,fun k hk => ?_,(oy.out.alloc _).off ih.out (fun h=>by have:=fv.out _ h;omega),pE eo.out hA.out,((bj.out.trans mq.out.off).trans (Off.alloc _ _ _)).grow ih.out (fun k h=>.inr (fv.out k h))⟩
   have e:k=g5:=hk
   rw [e]
   rcases rj.out with h | h
   ·exact fv.out _ h
   rw [World.size_alloc] at h;omega
  simp [intOf];omega
 obtain rfl:n=i:=by omega
 --@B
 replace B4:=h! (B4.out.off bj.out (fun h=>by have e:w.heap.size+1=pm:=h;omega))
 replace B6:=h! (B6.out.off bj.out (fun h=>by have e:w.heap.size+1+1=pm:=h;omega))
 replace HQ:=h! (HQ.out.off bj.out (fun k h1 h2=>by have e:k=pm:=h2;have:=bi.out.2.2 k h1;omega))
 replace HP:=h! (HP.out.off bj.out (fun k h1 h2=>by have e:k=pm:=h2;have:=bi.out.1 k h1;omega))
 have db:Hid (Holds [w.heap.size,w.heap.size+1,w.heap.size+1+1] w3.heap.size w4 T (fun W=>eR W T (.slice a1 n c1) (iJ nb n))):=h! ((gF HT.out (fun k hk=>fv.out k hk)).low (by intro z hz;simp at hz;omega))
 have de:Hid (Holds [w.heap.size,w.heap.size+1,w.heap.size+1+1] pm w4 (Foot.one pm) (fun W=>IMap W pm (encT P))):=h! ⟨HI.out,fun _ _ h hk=>h.keep (hk pm rfl),fun k hk=>by cases hk;exact HI.out.lt,fun k hk=>by cases hk;exact aC _,fun k hk h=>by cases hk;simp at h;omega⟩
 have mr:Hid (∀ k,T k -> k < w4.heap.size):=h! HT.out.lt
 clear HT HI
 obtain ⟨aj,ah,ai⟩:=B2.out
 obtain ⟨ao,aq,aw⟩:=B4.out
 obtain ⟨ak,al,am⟩:=B6.out
 have kr:=@run_makeMap Tryz.prog
 go_upto_region 10 with (fail)
 --@B1
 obtain ⟨mb,jk⟩ : ∃ mb,mb=w4.heap.size:=⟨_,rfl⟩
 have ex:(w4.setCell ⟨w.heap.size+1+1,0,none⟩ (.map (some mb))).heap.size=mb:=by simp [World.setCell,jk]
 rw [<-jk] at ko mr
 simp only [<-jk]
 clear jk kr
 clear aj ah ai ao aq aw ak al am
 have bh:=(Only.set w4 (w.heap.size+1+1) 0 (.map (some mb)))
 replace B2:=h! (B2.out.only bh (by first | assumption | (simp;done) | omega))
 replace B4:=h! (B4.out.only bh (by first | assumption | (simp;done) | omega))
 replace HQ:=h! (HQ.out.other (p:=⟨w.heap.size+1+1,0,none⟩) (.map (some mb)) (by simp))
 replace HP:=h! (HP.out.other (p:=⟨w.heap.size+1+1,0,none⟩) (.map (some mb)) (by simp))
 replace db:=h! (db.out.other (p:=⟨w.heap.size+1+1,0,none⟩) (.map (some mb)) (by simp))
 replace de:=h! (de.out.other (p:=⟨w.heap.size+1+1,0,none⟩) (.map (some mb)) (by simp))
 replace HW:=h! (bh.2.2 HW.out (by first | assumption | omega | (have:=HW.out.size;omega) | (simp;done) | (simp;omega)))
 replace B6:=h! (Box.to (A':=#[(.map (some mb))]) (B6.out.set 0 (.map (some mb))) (by first | rfl | simp))
 clear bh
 generalize (w4.setCell ⟨w.heap.size+1+1,0,none⟩ (.map (some mb)))=w5 at *
 obtain ⟨aj,ah,ai⟩:=B2.out
 obtain ⟨ao,aq,aw⟩:=B4.out
 obtain ⟨ak,al,am⟩:=B6.out
 have bk:=(Below.refl w5.heap.size w5).alloc (aC _) (.map #[] 0)
 have jc:=IMap.new w5
 rw [ex] at jc
 clear aj ah ai ao aq aw ak al am
 replace B2:=h! (B2.out.later bk)
 replace B4:=h! (B4.out.later bk)
 replace B6:=h! (B6.out.later bk)
 replace HQ:=h! (HQ.out.later bk)
 replace HP:=h! (HP.out.later bk)
 replace db:=h! (db.out.later bk)
 replace de:=h! (de.out.later bk)
 replace HW:=h! (HW.out.trans (bk.mono HW.out.size))
 clear bk
 obtain ⟨aj,ah,ai⟩:=B2.out
 obtain ⟨ao,aq,aw⟩:=B4.out
 obtain ⟨ak,al,am⟩:=B6.out
 have hs6:(w5.alloc (.map #[] 0)).heap.size=mb+1:=by rw [World.size_alloc,ex]
 clear ex
 generalize w5.alloc (.map #[] 0)=w6 at *
 have jh:Hid (Holds [w.heap.size,w.heap.size+1,w.heap.size+1+1] mb w6 (Foot.one mb) (fun W=>IMap W mb (encT []))):=h! ⟨jc,fun _ _ h hk=>h.keep (hk mb rfl),fun k hk=>by cases hk;exact jc.lt,fun k hk=>by cases hk;exact aC _,fun k hk h=>by cases hk;simp at h;omega⟩
 have gq:Hid (∀ k,T k -> w3.heap.size <= k/\k < mb):=h! (fun k hk=>⟨fv.out k hk,by have:=mr.out k hk;omega⟩)
 clear jc fv mr
 --@B2
 go_wp2_with fail
 refine (zV (HV.out.below HW.out) rl.out).mono ?_
 rintro e w7 ⟨m0,rfl,dm,dw,hb⟩
 clear aj ah ai ao aq aw ak al am
 replace B2:=h! (B2.out.later hb)
 replace B4:=h! (B4.out.later hb)
 replace B6:=h! (B6.out.later hb)
 replace HQ:=h! (HQ.out.later hb)
 replace HP:=h! (HP.out.later hb)
 replace db:=h! (db.out.later hb)
 replace de:=h! (de.out.later hb)
 replace jh:=h! (jh.out.later hb)
 replace HW:=h! (HW.out.trans (hb.mono HW.out.size))
 clear hb
 obtain ⟨aj,ah,ai⟩:=B2.out
 obtain ⟨ao,aq,aw⟩:=B4.out
 obtain ⟨ak,al,am⟩:=B6.out
 go_wp2_with fail
 clear aj ah ai ao aq aw ak al am
 --@C
 go_loopw [10,57] (fun mv iv wr => ∃ (i:Nat) (m:Int) (T:List (Int × Int)),i <= n/\iv = .int .i64 i/\mv = .int .i64 m/\0 <= m/\m <= 1048576+200000 * (i:Int)/\IMap wr mb (encT T)/\(∀ z ∈ T,In64 z.2)/\Off (Foot.one mb) w7 wr) (fun _ iv _=>n - (intOf iv).toNat)
 case atStart=>exact ⟨0,m0,[],aH _,rfl,rfl,dm,by omega,jh.out.now,(fun z h=>by cases h),Off.refl _ _⟩
 clear dm dw
 obtain ⟨i,m,T0,hi,rfl,rfl,dm,dw,hI,bm,bd⟩:=hrel
 have ii:=h! hI
 have an:=h! bm
 have bf:=h! bd
 clear hI bm bd
 generalize wr=w8 at *
 replace HW:=h! (HW.out.trans (bf.out.below HW.out.size (fun k _ hk=>by have e:k=mb:=hk;omega)))
 replace B2:=h! (B2.out.off bf.out (fun h=>by have e:w.heap.size=mb:=h;omega))
 replace B6:=h! (B6.out.off bf.out (fun h=>by have e:w.heap.size+1+1=mb:=h;omega))
 by_cases bs:i < n
 ·obtain ⟨b,bn⟩ : ∃ b,L[i]? = some b:=⟨_,aB (by rw [<-fg.out];exact bs)⟩
  obtain ⟨rfl,fb⟩:=js.out (by omega)
  have kl:=(HW.out.cell (p:=⟨lb,lo+i,none⟩) fb).trans (jf.out i b bn)
  have jj:b < nb:=ln.out b (aG bn)
  obtain ⟨x,hx⟩ : ∃ x,f.blocks[b]? = some x:=⟨_,aB (by rw [<-co.out];exact jj)⟩
  obtain ⟨nw,lg,lL,nc,lM,ly,hC⟩:=mi.out b x hx
  have cz:=hC.phis
  have hd:=hC.code
  obtain ⟨k0,k1,k2,k3,k4,k5, -, -, -, -, -, -⟩:=hC.below HW.out gi
  have hK:=io.out.1 x (aG hx)
  obtain ⟨pl,ec⟩ : ∃ pl,pl=x.phis.length:=⟨_,rfl⟩
  obtain ⟨cl,br⟩ : ∃ cl,cl=x.code.length:=⟨_,rfl⟩
  obtain ⟨ac,capc,bcd,ocd,gz,rk,hcm,il,lf,py⟩:=fS hd
  obtain ⟨qx,lr,nn,pe,ct,ev,mg,cF,bw,da⟩:=fH cz
  rw [<-ec] at ct ev cF bw k0 hK
  rw [<-br] at gz rk il lf k1 hK
  cases ct
  cases gz
  have hs1:=hK.1
  have hs2:=hK.2
  have gd:=h! ec
  have jw:=h! br
  have lk:=h! bw
  have lq:=h! da
  have nr:=h! lf
  have kj:=h! py
  have HC:=h! hC
  clear ec br bw da lf py cz hd hC hx hK bn
  obtain ⟨aj,ah,ai⟩:=B2.out
  obtain ⟨ak,al,am⟩:=B6.out
  go_wp2_with fail
  clear aj ah ai ak al am
  clear k0 k1 k2 k3 k4 k5 kl
  --@C1
  go_loopw [10,68] (fun mv kv wr => ∃ (k:Nat) (m:Int) (T:List (Int × Int)),k <= pl/\kv = .int .i64 k/\mv = .int .i64 m/\0 <= m/\m <= 1048576+200000 * (i:Int)+(k:Int)/\IMap wr mb (encT T)/\(∀ z ∈ T,In64 z.2)/\Off (Foot.one mb) w8 wr) (fun _ kv _=>pl - (intOf kv).toNat)
  case atStart=>exact ⟨0,m,T0,aH _,rfl,rfl,dm,by omega,ii.out,an.out,Off.refl _ _⟩
  clear dm dw ii an
  obtain ⟨k,m,T1,hk,rfl,rfl,dm,dw,hI,bm,ho⟩:=hrel
  have cw:=h! hI
  have an:=h! bm
  have fq:Hid (OffF (Foot.one mb) w8 wr):=h! ho
  clear hI bm ho
  generalize wr=w9 at *
  have fl:Hid (Below w.heap.size w w9):=h! (HW.out.trans (Off.below fq.out HW.out.size (fun k _ hk=>by have e:k=mb:=hk;omega)))
  have fd:Hid (Box w9 (w.heap.size+1+1) #[.map (some mb)]):=h! (B6.out.off fq.out (fun h=>by have e:w.heap.size+1+1=mb:=h;omega))
  by_cases hlt2:k < pl
  ·obtain ⟨rfl,fG⟩:=lk.out (by omega)
   obtain ⟨p,hp⟩ : ∃ p,x.phis[k]? = some p:=⟨_,aB (by rw [<-gd.out];exact hlt2)⟩
   obtain ⟨af,av,cf,cv,hP⟩:=lq.out k p hp
   obtain ⟨q0,q1,q2,q3, -, -, -, -⟩:=hP.below fl.out fG
   clear hP hp
   obtain ⟨bt,cm,ch⟩:=fd.out
   go_upto_region 17 with (fail)
   have dk:w9.heap.size ≠ w.heap.size+1+1:=fun e=>by have:=bt;omega
   have nB69B14:w.heap.size+1+1 ≠ w9.heap.size:=fun e=>dk e.symm
   clear bt cm ch
   have ax:=(Below.refl w9.heap.size w9).alloc (aC _) (.cells #[.int .i64 p.id,.int .i64 p.typ,.slice af p.src.length cf,.slice av p.vals.length cv] 78)
   replace fd:=h! (fd.out.later ax)
   replace cw:=h! (cw.out.later ax)
   replace fq:=h! (fq.out.later ax)
   replace fl:=h! (fl.out.trans (ax.mono fl.out.size))
   clear ax
   have oj:=h! (Box.new w9 #[.int .i64 p.id,.int .i64 p.typ,.slice af p.src.length cf,.slice av p.vals.length cv] 78)
   generalize w9.alloc (.cells #[.int .i64 p.id,.int .i64 p.typ,.slice af p.src.length cf,.slice av p.vals.length cv] 78)=w10 at *
   obtain ⟨bt,cm,ch⟩:=fd.out
   obtain ⟨gm,gl,gj⟩:=oj.out
   clear q0 q1 q2 q3
   clear bt cm ch gm gl gj
   obtain ⟨b14,fa⟩ : ∃ b14,b14=w9.heap.size:=⟨_,rfl⟩
   rw [<-fa] at oj
   simp only [<-fa]
   clear fa
   obtain ⟨bt,cm,ch⟩:=fd.out
   obtain ⟨gm,gl,gj⟩:=oj.out
   --@C2
   go_wp2_with (at_mapUpdate;refine fJ (q:=.i64) (b:=mb) (mm:=encT T1) (y:=p.id) rfl _ _ _ _ (.inl rfl) Tryz.underlying93 Tryz.underlying3 rfl cw.out rfl ?_;intro mz hE jx hX;have ep:Hid (IMap mz mb (encT (putT T1 p.id m))):=h! (by rw [<-nE];exact hE);have ey:=h! hX;clear hE jx hX)
   go_roundw
   case rel=>exact ⟨k+1,m+1,putT T1 p.id m,hlt2,by go_num,by go_num,by omega,by omega,ep.out,pE an.out ⟨by omega,by omega⟩,Off.trans fq.out ey.out.off⟩
   simp [intOf];omega
  obtain rfl:pl=k:=by omega
  --@D
  have sg:Hid (Box w9 w.heap.size #[.slice ap np cp,.int .i64 ar,.int .i64 ce,.slice (some ⟨bb,bo,none⟩) nb cb]):=h! (B2.out.off fq.out (fun h=>by have e:w.heap.size=mb:=h;omega))
  obtain ⟨k0,k1,k2,k3,k4,k5, -, -, -, -, -, -⟩:=HC.out.below fl.out gi
  rw [<-gd.out] at k0
  rw [<-jw.out] at k1
  obtain ⟨md,kc,kL⟩:=sg.out
  obtain ⟨bt,cm,ch⟩:=fd.out
  go_wp2_with fail
  clear md kc kL bt cm ch
  clear k0 k1 k2 k3 k4 k5
  go_loopw [10,86] (fun mv kv wr => ∃ (k:Nat) (m:Int) (T:List (Int × Int)),k <= cl/\kv = .int .i64 k/\mv = .int .i64 m/\0 <= m/\m <= 1048576+200000 * (i:Int)+(pl:Int)+(k:Int)/\IMap wr mb (encT T)/\(∀ z ∈ T,In64 z.2)/\Off (Foot.one mb) w9 wr) (fun _ kv _=>cl - (intOf kv).toNat)
  case atStart=>exact ⟨0,m,T1,aH _,rfl,rfl,dm,by omega,cw.out,an.out,Off.refl _ _⟩
  clear dm dw cw an
  obtain ⟨k,m,T1,hk,rfl,rfl,dm,dw,hI,bm,ho⟩:=hrel
  have cw:=h! hI
  have an:=h! bm
  have fi:Hid (OffF (Foot.one mb) w9 wr):=h! ho
  clear hI bm ho
  generalize wr=wa at *
  have jb:Hid (Below w.heap.size w wa):=h! (fl.out.trans (Off.below fi.out fl.out.size (fun k _ hk=>by have e:k=mb:=hk;omega)))
  have gk:Hid (Box wa (w.heap.size+1+1) #[.map (some mb)]):=h! (fd.out.off fi.out (fun h=>by have e:w.heap.size+1+1=mb:=h;omega))
  by_cases hlt2:k < cl
  ·obtain ⟨rfl,fG⟩:=nr.out (by omega)
   obtain ⟨y,hy⟩ : ∃ y,x.code[k]? = some y:=⟨_,aB (by rw [<-jw.out];exact hlt2)⟩
   obtain ⟨aa,ca,hP⟩:=kj.out k y hy
   obtain ⟨q0,q1,q2,q3, -, -, -, -⟩:=hP.below jb.out fG
   clear hP hy
   obtain ⟨cy,dz,dv⟩:=gk.out
   go_upto_region 23 with (fail)
   have di:wa.heap.size ≠ w.heap.size+1+1:=fun e=>by have:=cy;omega
   have nB6AB16:w.heap.size+1+1 ≠ wa.heap.size:=fun e=>di e.symm
   clear cy dz dv
   have ax:=(Below.refl wa.heap.size wa).alloc (aC _) (.cells #[.int .i64 y.op,.int .i64 y.id,.slice aa y.args.length ca,.int .i64 y.n] 82)
   replace gk:=h! (gk.out.later ax)
   replace cw:=h! (cw.out.later ax)
   replace fi:=h! (fi.out.later ax)
   replace jb:=h! (jb.out.trans (ax.mono jb.out.size))
   clear ax
   have li:=h! (Box.new wa #[.int .i64 y.op,.int .i64 y.id,.slice aa y.args.length ca,.int .i64 y.n] 82)
   generalize wa.alloc (.cells #[.int .i64 y.op,.int .i64 y.id,.slice aa y.args.length ca,.int .i64 y.n] 82)=wb at *
   obtain ⟨cy,dz,dv⟩:=gk.out
   obtain ⟨hN,hT,ig⟩:=li.out
   clear q0 q1 q2 q3
   clear cy dz dv hN hT ig
   obtain ⟨b16,en⟩ : ∃ b16,b16=wa.heap.size:=⟨_,rfl⟩
   rw [<-en] at li
   simp only [<-en]
   clear en
   obtain ⟨cy,dz,dv⟩:=gk.out
   obtain ⟨hN,hT,ig⟩:=li.out
   --@D1
   by_cases h0:0 <= y.id
   ·have ss:decide (0 <= y.id)=true:=by simpa using h0
    clear h0
    go_wp2_with (at_mapUpdate;refine fJ (q:=.i64) (b:=mb) (mm:=encT T1) (y:=y.id) rfl _ _ _ _ (.inl rfl) Tryz.underlying93 Tryz.underlying3 rfl cw.out rfl ?_;intro mz hE jx hX;have ep:Hid (IMap mz mb (encT (putT T1 y.id m))):=h! (by rw [<-nE];exact hE);have ey:=h! hX;clear hE jx hX)
    go_roundw
    case rel=>exact ⟨k+1,m+1,putT T1 y.id m,hlt2,by go_num,by go_num,by omega,by omega,ep.out,pE an.out ⟨by omega,by omega⟩,Off.trans fi.out ey.out.off⟩
    simp [intOf];omega
   have ss:decide (0 <= y.id)=false:=by simpa using h0
   clear h0
   go_wp2
   go_roundw
   case rel=>exact ⟨k+1,m,T1,hlt2,by go_num,rfl,by omega,by omega,cw.out,an.out,fi.out⟩
   simp [intOf];omega
  obtain rfl:cl=k:=by omega
  --@D2
  go_wp2
  go_roundw
  case rel=>exact ⟨i+1,m,T1,bs,by go_num,rfl,by omega,by omega,cw.out,an.out,(bf.out.trans fq.out).trans fi.out⟩
  simp [intOf];omega
 obtain rfl:n=i:=by omega
 --@E
 replace B4:=h! (B4.out.off bf.out (fun h=>by have e:w.heap.size+1=mb:=h;omega))
 replace HQ:=h! (HQ.out.off bf.out (fun k h1 h2=>by have e:k=mb:=h2;have:=bi.out.2.2 k h1;omega))
 replace HP:=h! (HP.out.off bf.out (fun k h1 h2=>by have e:k=mb:=h2;have:=bi.out.1 k h1;omega))
 replace db:=h! (db.out.off bf.out (fun k h1 h2=>by have e:k=mb:=h2;have:=gq.out k h1;omega))
 replace de:=h! (de.out.off bf.out (fun k h1 h2=>by have e:k=mb:=h2;have e2:k=pm:=h1;omega))
 have hmb8:mb < w8.heap.size:=ii.out.lt
 clear jh
 obtain ⟨aj,ah,ai⟩:=B2.out
 obtain ⟨ao,aq,aw⟩:=B4.out
 obtain ⟨ak,al,am⟩:=B6.out
 go_wp2_with fail
 clear aj ah ai ao aq aw ak al am
 --@E1
 go_loopw [104] (fun iv wr => ∃ (i:Nat) (SO:Foot) (g cap:Nat) (ys:List BlockD),i <= n/\iv = .int .i64 i/\ys.length=i/\(∀ j b,j < i -> L[j]? = some b -> ∃ x y,f.blocks[b]? = some x/\ys[j]? = some y/\kJ x y)/\Box wr (w.heap.size+1) #[.slice ay np az,.int .i64 ar,.int .i64 ce,.slice (some ⟨g,0,none⟩) (nb+i) cap] /\
   Holds [w.heap.size,w.heap.size+1,w.heap.size+1+1] wv.heap.size wr SO (fun W=>eX W SO (.slice (some ⟨g,0,none⟩) (nb+i) cap) (f.blocks ++ ys))/\Off (fun k=>k=w.heap.size+1 \/ SB k) w8 wr/\(∀ k,SO k -> SB k \/ w8.heap.size <= k)) (fun iv _=>n - (intOf iv).toNat)
 case atStart=>exact ⟨0,SB,g,cap,[],aH _,rfl,rfl,fun j b h=>absurd h (eC _),B4.out,by rw [bY];exact HP.out,Off.refl _ _,fun k h=>.inl h⟩
 clear B4
 obtain ⟨i,SO,g4,c4,ys,hi,rfl,oq,br,B4,pb,bd,pg⟩:=hrel
 replace B4:=h! B4
 have gg:=h! oq
 have hs:=h! br
 have fF:=h! pb
 have bg:=h! bd
 have gb:=h! pg
 clear oq br pb bd pg
 generalize wr=w9 at *
 have lF:w8.heap.size <= w9.heap.size:=bg.out.size
 have HD:Hid (∀ k,(k=w.heap.size+1 \/ SB k) -> w.heap.size < k/\k ≠ w.heap.size+1+1/\k ≠ pm/\k ≠ mb/\k < pm):=h! (fun k hk=>by
  rcases hk with rfl | hk
  ·refine ⟨by omega,by omega,by omega,by omega,by omega⟩
  have:=bi.out.1 k hk
  refine ⟨by omega,by omega,by omega,by omega,by omega⟩)
 replace HW:=h! (HW.out.trans (bg.out.below HW.out.size (fun k _ hk=>by have:=HD.out k hk;omega)))
 replace B2:=h! (B2.out.off bg.out (fun h=>by have:=HD.out _ h;omega))
 replace B6:=h! (B6.out.off bg.out (fun h=>by have:=HD.out _ h;omega))
 have dj:Hid (IMap w9 pm (encT P)):=h! (de.out.now.off bg.out (fun h=>(HD.out _ h).2.2.1 rfl))
 have em:Hid (IMap w9 mb (encT T0)):=h! (ii.out.off bg.out (fun h=>(HD.out _ h).2.2.2.1 rfl))
 have ae:Hid (∀ k,SO k -> w.heap.size+1+1 < k/\k ≠ pm/\k ≠ mb/\wv.heap.size <= k):=h! (fun k hk=>by
  rcases gb.out k hk with h | h
  ·have:=bi.out.1 k h
   refine ⟨by omega,by omega,by omega,by omega⟩
  refine ⟨by omega,by omega,by omega,by omega⟩)
 by_cases bs:i < n
 ·obtain ⟨b,bn⟩ : ∃ b,L[i]? = some b:=⟨_,aB (by rw [<-fg.out];exact bs)⟩
  obtain ⟨rfl,fb⟩:=js.out (by omega)
  have kl:=(HW.out.cell (p:=⟨lb,lo+i,none⟩) fb).trans (jf.out i b bn)
  have jj:b < nb:=ln.out b (aG bn)
  obtain ⟨x,hx⟩ : ∃ x,f.blocks[b]? = some x:=⟨_,aB (by rw [<-co.out];exact jj)⟩
  obtain ⟨nw,lg,lL,nc,lM,ly,hC⟩:=mi.out b x hx
  have sr:Hid (BlockV w (.agg #[.slice nw x.phis.length nc,.slice lg x.code.length lM,.int .i64 x.term.op,.int .i64 x.term.val,.slice lL x.term.to.length ly,.int .i64 x.term.n]) x):=h! ⟨⟨_,_,_,rfl,hC.phis,hC.code,hC.to⟩,hC.op64,hC.val64,hC.n64⟩
  have rt:=h! hC
  have pc:=h! (io.out.1 x (aG hx))
  have rm:=h! (qo.out x (aG hx))
  have sc:Hid ((f.blocks ++ ys).length=nb+i):=h! (by rw [aI,gg.out, <-co.out])
  have pt:=h! (And.intro bn hx)
  clear hC hx bn
  have gh:Hid (∀ k,SO k -> k < w9.heap.size):=h! fF.out.lt
  obtain ⟨XF,nj,nk⟩ : ∃ XF:Nat -> Foot,(∀ q k,q ≠ 11 -> ¬ XF q k) /\ ∀ k,XF 11 k ↔ SO k:=⟨fun q=>if q=11 then SO else Foot.none,fun q k hq h=>by simp only [if_neg hq] at h;exact h.elim,fun k=>by simp⟩
  have pj:=h! nj
  have rn:=h! nk
  have eh:Hid (∀ k,Four.All XF k -> SO k):=h! (fun k ⟨q,hq⟩=>by
   by_cases e:q=11
   ·subst e;exact (nk k).1 hq
   exact absurd hq (nj q k e))
  clear nj nk
  have xW:∀ q k,XF q k -> k < w9.heap.size:=fun q k h=>gh.out k (eh.out k ⟨q,h⟩)
  have xI:∀ w w' : World,True -> Below w.heap.size w w' -> True:=fun _ _ _ _=>trivial
  have jp:True:=trivial
  have od:¬ Four.All XF w.heap.size:=fun h=>by have:=ae.out _ (eh.out _ h);omega
  have kt:¬ Four.All XF (w.heap.size+1):=fun h=>by have:=ae.out _ (eh.out _ h);omega
  have jm:¬ Four.All XF (w.heap.size+1+1):=fun h=>by have:=ae.out _ (eh.out _ h);omega
  have pk:Hid (¬ Four.All XF pm /\ ¬ Four.All XF mb):=h! ⟨fun h=>(ae.out _ (eh.out _ h)).2.1 rfl,fun h=>(ae.out _ (eh.out _ h)).2.2.1 rfl⟩
  have bc:∀ k,k < w9.heap.size -> Four.All XF k -> w.heap.size <= k:=fun k _ h=>by have:=ae.out k (eh.out k h);omega
  obtain ⟨aj,ah,ai⟩:=B2.out
  obtain ⟨ao,aq,aw⟩:=B4.out
  obtain ⟨ak,al,am⟩:=B6.out
  have nz:∀ z ∈ [w.heap.size,w.heap.size+1,w.heap.size+1+1],z < wv.heap.size:=by intro z hz;simp at hz;omega
  have nv:nb+i+1 <= 17592186044416:=by omega
  have oh:(nb+i+1) * 96 <= 140737488355328:=by omega
  go_upto_region 32 with (fail)
  clear kl
  --@E2
  refine Four.wp_region_grow (XF:=XF) (I:=(fun _=>True)) 12 (fun ν kz=>match kz with | 9=>.holds (fun u w' => ∃ (pv uv tv:Value) (S:Foot) (y:BlockD),u = .agg #[pv,uv,.int .i64 y.term.op,.int .i64 y.term.val,tv,.int .i64 y.term.n]/\kJ x y/\Holds [] w9.heap.size w' S (fun W=>OBlock W S [pv,uv,.int .i64 y.term.op,.int .i64 y.term.val,tv,.int .i64 y.term.n] y)) | 10=>.holds (fun u w' => ∃ (B:Nat) (pv uv tv:Value) (S:Foot) (y:BlockD),u = .slice (some ⟨B,0,none⟩) 1 1/\kJ x y/\w9.heap.size <= B/\Box w' B #[pv,uv,.int .i64 y.term.op,.int .i64 y.term.val,tv,.int .i64 y.term.n]/\Holds [] w9.heap.size w' S (fun W=>OBlock W S [pv,uv,.int .i64 y.term.op,.int .i64 y.term.val,tv,.int .i64 y.term.n] y)) | 11=>.holds (fun u w' => ∃ (S:Foot) (y:BlockD),kJ x y/\Holds [w.heap.size,w.heap.size+1,w.heap.size+1+1] wv.heap.size w' S (fun W=>eX W S (u) ((f.blocks ++ ys) ++ [y]))/\(∀ k,S k -> SO k \/ w9.heap.size <= k) /\ ∃ g cap,u = .slice (some ⟨g,0,none⟩) (nb+i+1) cap) | _=>.plain) (by kernel_rfl) (by kernel_rfl) ?_ ?_ xW xI jp ?_ (fun ν => ?_)
  ·(intro ν k;(try dsimp only);split <;> first | exact True.intro | (intro u w1 w2 hu hb;first | (obtain ⟨pv,uv,tv,S,y,h1,h2,h3⟩:=hu;exact ⟨pv,uv,tv,S,y,h1,h2,h3.off hb (fun k g1 ⟨q,_,g2⟩=>by have:=xW q k g2;have:=h3.base k g1;omega)⟩) | (obtain ⟨B,pv,uv,tv,S,y,h0,h9,h1,h2,h3⟩:=hu;exact ⟨B,pv,uv,tv,S,y,h0,h9,h1,h2.off hb (fun ⟨q,_,g2⟩=>by have:=xW q _ g2;omega),h3.off hb (fun k g1 ⟨q,_,g2⟩=>by have:=xW q k g2;have:=h3.base k g1;omega)⟩) | (obtain ⟨S,y,h1,h2,h3,h4⟩:=hu;exact ⟨S,y,h1,h2.off hb (fun k _ ⟨q,g1,g2⟩=>pj.out q k g1 g2),h3,h4⟩)))
  ·(intro ν ν' k h;first | rfl | ((try dsimp only);split <;> first | rfl))
  ·(intro ν j B mk A h;(try dsimp only at h);split at h <;> first | (cases h;exact Nat.le_refl _) | cases h)
  simp only [aP,aU,aS,aX]
  iterate 9 (refine Four.Grow.val (v := ?_) rfl rfl (fun wg hbg hdg => ?_) ?_;rotate_left;(focus ((obtain ⟨qz,sd,ra⟩:=B2.out.off hbg.off od);(obtain ⟨lg1,cg1,fg1⟩:=B4.out.off hbg.off kt);(obtain ⟨lg2,cg2,fg2⟩:=B6.out.off hbg.off jm);(obtain ⟨k0,k1,k2,k3,k4,k5, -, -, -, -, -, -⟩:=rt.out.below (HW.out.trans (hbg.off.below HW.out.size bc)) gi);clear hbg hdg;first | (go_simp;done) | (go_simp;with_reducible rfl)));simp only [Act.put,aA,aE,aF])
  refine Four.Grow.call (f := ?_) (args := ?_) rfl (fun wg => ?_) (fun wg hbg hdg => ?_) ?_
  rotate_left 2
  focus (first | (go_simp;done) | (go_simp;refine And.intro ?_ ?_ <;> with_reducible rfl) | (go_simp;with_reducible rfl))
  focus (exact (tK (sr.out.below (HW.out.trans (hbg.off.below HW.out.size bc))) pc.out.1 pc.out.2 rm.out (dj.out.off hbg.off pk.out.1) eo.out (B6.out.off hbg.off jm) (em.out.off hbg.off pk.out.2) an.out).mono (fun e w2 ⟨pv,uv,tv,S,y,he,hO,br,hF,hw⟩=>⟨_,he,⟨pv,uv,tv,S,y,rfl,br,(kM OBlock.nice hO hF).from hbg.1.size⟩,hw⟩))
  simp only [Act.put,Known.val,aA,aE,aF]
  refine Four.Grow.gives rfl (fun wg hbg hdg => ?_) ?_
  focus ((have h7:∃ (pv uv tv:Value) (S:Foot) (y:BlockD), ν 9 = .agg #[pv,uv,.int .i64 y.term.op,.int .i64 y.term.val,tv,.int .i64 y.term.n]/\kJ x y/\Holds [] w9.heap.size wg S (fun W=>OBlock W S [pv,uv,.int .i64 y.term.op,.int .i64 y.term.val,tv,.int .i64 y.term.n] y):=hdg 9 (by kernel_rfl));(obtain ⟨pv,uv,tv,S,y,e7,br,k7⟩:=h7);(have ky:=hbg.1.size);clear hdg;simp only [e7];refine ⟨.slice (some ⟨wg.heap.size,0,none⟩) 1 1,wg.alloc (.cells #[pv,uv,.int .i64 y.term.op,.int .i64 y.term.val,tv,.int .i64 y.term.n] 63), ?_,⟨wg.heap.size,pv,uv,tv,S,y,rfl,br,ky,Box.new _ _ _,k7.alloc _⟩,Four.Step.of (fun _ _ _ _=>trivial) ((Below.refl _ _).alloc (aC _) _)⟩;clear hbg k7;(first | (go_simp;done) | (go_simp;with_reducible rfl)))
  simp only [Act.put,Known.val,aA,aE,aF]
  refine Four.Grow.gives rfl (fun wg hbg hdg => ?_) ?_
  focus ((have h8:∃ (B:Nat) (pv uv tv:Value) (S:Foot) (y:BlockD), ν 10 = .slice (some ⟨B,0,none⟩) 1 1/\kJ x y/\w9.heap.size <= B/\Box wg B #[pv,uv,.int .i64 y.term.op,.int .i64 y.term.val,tv,.int .i64 y.term.n]/\Holds [] w9.heap.size wg S (fun W=>OBlock W S [pv,uv,.int .i64 y.term.op,.int .i64 y.term.val,tv,.int .i64 y.term.n] y):=hdg 10 (by kernel_rfl));(obtain ⟨B,pv,uv,tv,S,y,e8,br,hB8,so,k8⟩:=h8);(have ky:=hbg.1.size);simp only [e8];exact sM OBlock.nice _ _ 23 63 rfl tX rfl rfl sc.out (fF.out.off hbg.1 (fun k _ ⟨q,g1,_,g3⟩=>pj.out q k g1 g3)) so rfl k8.now (fun k g1 g2=>by have:=k8.base k g1;have:=gh.out k g2;omega) (fun k g1=>by have:=k8.base k g1;omega) nz (by omega) k8.now.one nv oh k8.base ky (fun k hk=>(rn.out k).2 hk) (fun u w2 S2 r2 r3 r4=>⟨S2,y,br,r2,r3,r4⟩))
  simp only [Act.put,Known.val,aA,aE,aF]
  intro wg hb hf fc
  clear fc
  clear aj ah ai ao aq aw ak al am
  replace B2:=h! (B2.out.off hb.1 od)
  replace B4:=h! (B4.out.off hb.1 kt)
  replace B6:=h! (B6.out.off hb.1 jm)
  replace HW:=h! (HW.out.trans (hb.1.below HW.out.size bc))
  obtain ⟨aj,ah,ai⟩:=B2.out
  obtain ⟨ao,aq,aw⟩:=B4.out
  obtain ⟨ak,al,am⟩:=B6.out
  simp only [bH,Nat.reduceAdd]
  have h9:∃ (S:Foot) (y:BlockD),kJ x y/\Holds [w.heap.size,w.heap.size+1,w.heap.size+1+1] wv.heap.size wg S (fun W=>eX W S (ν 11) ((f.blocks ++ ys) ++ [y]))/\(∀ k,S k -> SO k \/ w9.heap.size <= k) /\ ∃ g cap, ν 11 = .slice (some ⟨g,0,none⟩) (nb+i+1) cap:=hf 11 (by omega)
  obtain ⟨SN,y,qt,k1,k2,g9,c9,e9⟩:=h9
  rw [e9] at k1
  simp only [e9]
  have nq:=h! k1
  have sm:=h! k2
  have sf:=h! qt
  have nL:Hid (Off SO w9 wg):=h! (Off.mono hb.1 (fun k _ h=>eh.out k h))
  clear e9 k1 k2 hf hb qt
  --@E3
  go_upto_region 33 with (fail)
  clear aj ah ai ao aq aw ak al am
  have be:Hid (Off (Foot.one (w.heap.size+1)) wg (wg.setCell ⟨w.heap.size+1,3,none⟩ (.slice (some ⟨g9,0,none⟩) (nb+i+1) c9))):=h! (Off.set wg ⟨w.heap.size+1,3,none⟩ _)
  have rf:Hid (Box (wg.setCell ⟨w.heap.size+1,3,none⟩ (.slice (some ⟨g9,0,none⟩) (nb+i+1) c9)) (w.heap.size+1) #[.slice ay np az,.int .i64 ar,.int .i64 ce,.slice (some ⟨g9,0,none⟩) (nb+i+1) c9]):=h! (by simpa using B4.out.set 3 (.slice (some ⟨g9,0,none⟩) (nb+i+1) c9))
  generalize wg.setCell ⟨w.heap.size+1,3,none⟩ (.slice (some ⟨g9,0,none⟩) (nb+i+1) c9)=wh at *
  have nm:Hid (∀ k,SN k -> SB k \/ w8.heap.size <= k):=h! (fun k hk=>(sm.out k hk).elim (gb.out k) (fun h=>.inr (bA lF h)))
  have oc:Hid (Holds [w.heap.size,w.heap.size+1,w.heap.size+1+1] wv.heap.size wh SN (fun W=>eX W SN (.slice (some ⟨g9,0,none⟩) (nb+i+1) c9) (f.blocks ++ (ys ++ [y])))):=h! (by
   have h9:=nq.out.off be.out (fun k h1 h2=>by have e:k=w.heap.size+1:=h2;exact nq.out.free k h1 (by rw [e];simp))
   rw [bN] at h9;exact h9)
  have nG:Hid (Off (fun k=>k=w.heap.size+1 \/ SB k) w8 wh):=h! ((bg.out.grow nL.out (fun k h=>(gb.out k h).imp .inr id)).trans (be.out.mono fun k _ h=>.inl h))
  have nd:Hid (∀ j b,j < i+1 -> L[j]? = some b -> ∃ x y',f.blocks[b]? = some x/\(ys ++ [y])[j]? = some y' /\ kJ x y'):=h! (fun j b' hj hb'=>by
   by_cases e:j=i
   ·subst e
    rw [pt.out.1] at hb'
    cases hb'
    exact ⟨x,y,pt.out.2,by rw [bS (by rw [gg.out];exact aC _),gg.out,dN];rfl,sf.out⟩
   obtain ⟨x',y',e1,e2,e3⟩:=hs.out j b' (by omega) hb'
   exact ⟨x',y',e1,by rw [cY (by rw [gg.out];omega)];exact e2,e3⟩)
  clear nq be B4 fF dj em od kt jm xW xI jp bc
  go_wp2
  go_roundw
  case rel=>exact ⟨i+1,SN,g9,c9,ys ++ [y],bs,by go_num,by rw [aI,gg.out];rfl,nd.out,rf.out,oc.out,nG.out,nm.out⟩
  simp [intOf];omega
 obtain rfl:n=i:=by omega
 --@F
 have pq:Hid (Holds [w.heap.size,w.heap.size+1,w.heap.size+1+1] wv.heap.size w9 SQ (fun W=>eR W SQ (.slice ay np az) f.params)):=h! (HQ.out.off bg.out (fun k h1 h2=>by
  rcases h2 with h2 | h2
  ·have:=bi.out.2.2 k h1;omega
  exact bi.out.2.1 k h1 h2))
 have ib:Hid (Holds [w.heap.size,w.heap.size+1,w.heap.size+1+1] w3.heap.size w9 T (fun W=>eR W T (.slice a1 n c1) (iJ nb n))):=h! (db.out.off bg.out (fun k h1 h2=>by
  have:=gq.out k h1
  rcases h2 with h2 | h2
  ·omega
  have:=bi.out.1 k h2;omega))
 obtain ⟨gs0,cM⟩ : ∃ gs0,gs0=f.blocks ++ ys:=⟨_,rfl⟩
 obtain ⟨m4,hZ⟩ : ∃ m4,m4=nb+n:=⟨_,rfl⟩
 rw [<-cM, <-hZ] at fF
 rw [<-hZ] at B4
 have lm:Hid (gs0.length=m4):=h! (by rw [cM,hZ,aI,gg.out,co.out])
 have st:Hid (∀ j,j < nb -> gs0[j]? = f.blocks[j]?):=h! (fun j hj=>by rw [cM,cY (by rw [<-co.out];exact hj)])
 have rz:Hid (∀ j b,L[j]? = some b -> ∃ x y,f.blocks[b]? = some x/\gs0[nb+j]? = some y/\kJ x y):=h! (fun j b hj=>by
  obtain ⟨x,y,e1,e2,e3⟩:=hs.out j b (by rw [fg.out];exact (aD.1 hj).1) hj
  exact ⟨x,y,e1,by rw [cM,bS (by rw [<-co.out];omega), <-co.out,Nat.add_sub_cancel_left];exact e2,e3⟩)
 have sx:Hid (m4=nb+n):=h! hZ
 have hm41:nb <= m4:=by omega
 have hm42:m4 <= 1024:=by omega
 clear cM hZ HQ db HP de ii
 obtain ⟨aj,ah,ai⟩:=B2.out
 obtain ⟨ao,aq,aw⟩:=B4.out
 obtain ⟨ak,al,am⟩:=B6.out
 go_wp2_with fail
 clear aj ah ai ao aq aw ak al am
 --@F1
 go_loopw [125] (fun iv wr => ∃ (i:Nat) (SG:Foot) (gs:List BlockD),i <= nb/\iv = .int .i64 i/\gs.length=m4/\(∀ z,i <= z -> gs[z]? = gs0[z]?)/\eX wr SG (.slice (some ⟨g4,0,none⟩) m4 c4) gs/\Off SO w9 wr/\(∀ z,SG z -> SO z \/ w9.heap.size <= z)) (fun iv _=>nb - (intOf iv).toNat)
 case atStart=>exact ⟨0,SO,gs0,aH _,rfl,lm.out,fun z _=>rfl,fF.out.now,Off.refl _ _,fun z h=>.inl h⟩
 obtain ⟨i,SG,gs,hi,rfl,ek,ed,ee,bd,ei⟩:=hrel
 have ck:=h! ek
 have cq:=h! ed
 have bp:=h! ee
 have ad:=h! bd
 have ag:=h! ei
 clear ek ed ee bd ei
 generalize wr=wi at *
 have cB:Hid (Below w.heap.size w wi):=h! (HW.out.trans (ad.out.below HW.out.size (fun k _ hk=>by have:=ae.out k hk;omega)))
 have jy:Hid (Box wi w.heap.size #[.slice ap np cp,.int .i64 ar,.int .i64 ce,.slice (some ⟨bb,bo,none⟩) nb cb]):=h! (B2.out.off ad.out (fun h=>by have:=ae.out _ h;omega))
 have cx:Hid (Box wi (w.heap.size+1) #[.slice ay np az,.int .i64 ar,.int .i64 ce,.slice (some ⟨g4,0,none⟩) m4 c4]):=h! (B4.out.off ad.out (fun h=>by have:=ae.out _ h;omega))
 by_cases bs:i < nb
 ·obtain ⟨x,hx⟩ : ∃ x,f.blocks[i]? = some x:=⟨_,aB (by rw [<-co.out];exact bs)⟩
  have dh:gs[i]? = some x:=by rw [cq.out i (aC _),st.out i bs];exact hx
  have og:(Instr.lookup 93 (.map (some pm)) (.int .i64 (i:Int)) true).run Tryz.prog wi = .ok (.tuple #[.int .i64 ((tyOf P (i:Int)).getD 0),.bool (tyOf P (i:Int)).isSome]) wi:=by
   rw [(dj.out.off ad.out (fun h=>(ae.out _ h).2.1 rfl)).lookup Tryz.underlying93 Tryz.underlying3 (fY _) (i:Int),gR]
   cases tyOf P (i:Int) <;> rfl
  obtain ⟨tv,om⟩ : ∃ tv,tv=(tyOf P (i:Int)).getD 0:=⟨_,rfl⟩
  obtain ⟨kb,po⟩ : ∃ kb,kb=(tyOf P (i:Int)).isSome:=⟨_,rfl⟩
  rw [<-om, <-po] at og
  clear om po
  cases kb
  ·skip
   --@G
   obtain ⟨g',fh,apb,aib,atb,cpb,cib,ctb,S1,S2,S3,hv,dl, -,ox, -, -, -, -, -, -, -, -, -, -, -, -, -, -⟩:=bp.out.open dh
   have na:=ox.c0
   have e0:g4=g':=by injection hv with h1 h2 h3;injection h1 with h1;injection h1 with h1
   rw [<-e0] at na
   obtain ⟨pl,ec⟩ : ∃ pl,pl=x.phis.length:=⟨_,rfl⟩
   rw [<-ec] at na
   have hpl5:pl <= 100000:=by rw [ec];exact (io.out.1 x (aG hx)).1
   have gd:=h! ec
   have HX:=h! hx
   have ba:=h! dh
   clear hv dl ox e0 ec hx dh
   obtain ⟨ny,kq,mh⟩:=jy.out
   obtain ⟨cc,bq,cn⟩:=cx.out
   go_wp2_with fail
   clear ny kq mh cc bq cn
   clear og na
   --@G1
   go_loopw [142] (fun kv wr => ∃ (k:Nat) (SG:Foot) (gs:List BlockD) (ps:List PhiD),k <= pl/\kv = .int .i64 k/\gs.length=m4/\(∀ z,i < z -> gs[z]? = gs0[z]?)/\gs[i]? = some (⟨ps,x.code,x.term⟩ : BlockD)/\ps.length=pl/\(∀ z,k <= z -> ps[z]? = x.phis[z]?)/\eX wr SG (.slice (some ⟨g4,0,none⟩) m4 c4) gs/\Off SO w9 wr/\(∀ z,SG z -> SO z \/ w9.heap.size <= z)) (fun kv _=>pl - (intOf kv).toNat)
   case atStart=>exact ⟨0,SG,gs,x.phis,aH _,rfl,ck.out,fun z hz=>cq.out z (by omega),ba.out,gd.out.symm,fun z _=>rfl,bp.out,ad.out,ag.out⟩
   clear ck cq bp ad ag ba cB jy cx
   obtain ⟨k,qw,qq,ps,hk,rfl,ek,ed,dh,im,hV,ee,bd,ei⟩:=hrel
   have ck:=h! ek
   have cq:=h! ed
   have ba:=h! dh
   have dc:=h! im
   have fw:=h! hV
   have bp:=h! ee
   have ad:=h! bd
   have ag:=h! ei
   clear ek ed dh im hV ee bd ei
   generalize wr=wk at *
   have rg:Hid (Below w.heap.size w wk):=h! (HW.out.trans (ad.out.below HW.out.size (fun k _ hk=>by have:=ae.out k hk;omega)))
   have pz:Hid (Box wk w.heap.size #[.slice ap np cp,.int .i64 ar,.int .i64 ce,.slice (some ⟨bb,bo,none⟩) nb cb]):=h! (B2.out.off ad.out (fun h=>by have:=ae.out _ h;omega))
   have qb:Hid (Box wk (w.heap.size+1) #[.slice ay np az,.int .i64 ar,.int .i64 ce,.slice (some ⟨g4,0,none⟩) m4 c4]):=h! (B4.out.off ad.out (fun h=>by have:=ae.out _ h;omega))
   by_cases hlt2:k < pl
   ·obtain ⟨p,hp⟩ : ∃ p,x.phis[k]? = some p:=⟨_,aB (by rw [<-gd.out];exact hlt2)⟩
    have ga:ps[k]? = some p:=by rw [fw.out k (aC _)];exact hp
    obtain ⟨g',fh,gp,fm,af,av,cf,cv,ds,G,Sf,Sv,hv, -,cg,bl, -, -, -, -, -, -, -, -, -, -, -, -, -, -, -⟩:=bp.out.phi ba.out ga
    have e0:g4=g':=by injection hv with h1 h2 h3;injection h1 with h1;injection h1 with h1
    rw [<-e0] at cg
    have ov:wk.cell? ⟨g4,i * 6,none⟩=some (.slice (some ⟨gp,0,none⟩) pl fm):=by rw [<-dc.out];exact cg
    obtain ⟨sl,ir⟩ : ∃ sl,sl=p.src.length:=⟨_,rfl⟩
    have it:=qo.out x (aG HX.out) p (aG hp)
    rw [<-ir] at it
    have hsl5:sl <= 512:=it.2
    have ni:=h! ir
    have kx:Hid (p.src.length=p.vals.length):=h! (by rw [<-ir];exact it.1)
    have rq:=h! hp
    have fB:=h! ga
    have ff:=h! ov
    clear hv e0 cg bl ir it hp ga
    obtain ⟨km,lB,ks⟩:=pz.out
    obtain ⟨lp,lw,kd⟩:=qb.out
    go_wp2_with fail
    clear km lB ks lp lw kd
    clear ov
    --@H
    go_loopw [155] (fun jv wr => ∃ (j:Nat) (SG:Foot) (gs:List BlockD) (ps:List PhiD) (q:PhiD),j <= n/\jv = .int .i64 j/\gs.length=m4/\(∀ z,i < z -> gs[z]? = gs0[z]?)/\gs[i]? = some (⟨ps,x.code,x.term⟩ : BlockD)/\ps.length=pl/\(∀ z,k < z -> ps[z]? = x.phis[z]?)/\ps[k]? = some q/\q.src.length=q.vals.length/\sl <= q.src.length/\q.src.length <= sl+j/\eX wr SG (.slice (some ⟨g4,0,none⟩) m4 c4) gs/\Off SO w9 wr/\(∀ z,SG z -> SO z \/ w9.heap.size <= z)/\wr.cell? ⟨g4,i * 6,none⟩=some (.slice (some ⟨gp,0,none⟩) pl fm)) (fun jv _=>n - (intOf jv).toNat)
    case atStart=>exact ⟨0,qw,qq,ps,p,aH _,rfl,ck.out,cq.out,ba.out,dc.out,fun z hz=>fw.out z (by omega),fB.out,kx.out,by rw [ni.out];exact aC _,by rw [ni.out];exact aC _,bp.out,ad.out,ag.out,ff.out⟩
    clear ck cq ba dc fw bp ad ag rg pz qb fB ff
    obtain ⟨j,jg,iw,jn,q,hj,rfl,ek,ed,dh,im,hV,ga,pr,qj,qe,ee,bd,ei,br⟩:=hrel
    have ck:=h! ek
    have cq:=h! ed
    have ba:=h! dh
    have dc:=h! im
    have fw:=h! hV
    have fB:=h! ga
    have cr:=h! (And.intro pr (And.intro qj qe))
    have bp:=h! ee
    have ad:=h! bd
    have ag:=h! ei
    have ff:=h! br
    clear ek ed dh im hV ga pr qj qe ee bd ei br
    generalize wr=wj at *
    by_cases hlt3:j < n
    ·skip
     --@I
     have eb:Hid (Below w.heap.size w wj):=h! (HW.out.trans (ad.out.below HW.out.size (fun k _ hk=>by have:=ae.out k hk;omega)))
     have gy:Hid (Box wj w.heap.size #[.slice ap np cp,.int .i64 ar,.int .i64 ce,.slice (some ⟨bb,bo,none⟩) nb cb]):=h! (B2.out.off ad.out (fun h=>by have:=ae.out _ h;omega))
     obtain ⟨b,bn⟩ : ∃ b,L[j]? = some b:=⟨_,aB (by rw [<-fg.out];exact hlt3)⟩
     obtain ⟨rfl,fb⟩:=js.out (by omega)
     have kl:=(eb.out.cell (p:=⟨lb,lo+j,none⟩) fb).trans (jf.out j b bn)
     have jj:b < nb:=ln.out b (aG bn)
     obtain ⟨nw,lg,lL,nc,lM,ly,hC⟩:=mi.out i x HX.out
     have cz:=hC.phis
     obtain ⟨k0, -, -, -, -, -, -, -, -, -, -, -⟩:=hC.below eb.out gi
     obtain ⟨qx,lr,nn,pe,ct,ev,mg,cF,bw,da⟩:=fH cz
     rw [<-gd.out] at ct ev cF bw k0
     cases ct
     obtain ⟨rfl,fG⟩:=bw (by omega)
     obtain ⟨af0,av0,cf0,cv0,ow⟩:=da k p rq.out
     obtain ⟨-, -,z2, -, -, -, -, -⟩:=ow.below eb.out fG
     rw [<-ni.out] at z2
     obtain ⟨g',fh,mj,fk,af,av,cf,cv,ds,G,Sf,Sv,hv,fy,cg,bl, -,gf, -, -, -,fe, -, -, -, -, -, -, -, -, -⟩:=bp.out.phi ba.out fB.out
     have e0:g4=g':=by injection hv with h1 h2 h3;injection h1 with h1;injection h1 with h1
     rw [<-e0] at cg fy
     have dy:=h! fy
     rw [ff.out,dc.out] at cg
     obtain ⟨rfl,rfl⟩ : gp=mj /\ fm=fk:=by injection cg with h1;injection h1 with h1 h2 h3;injection h1 with h1;injection h1 with h1;exact ⟨h1,h3⟩
     have z1:=gf.c2
     obtain ⟨qs,fL⟩ : ∃ qs,qs=q.src.length:=⟨_,rfl⟩
     have hh:sl <= qs:=by rw [fL];exact cr.out.2.1
     have hqs2:qs <= sl+j:=by rw [fL];exact cr.out.2.2
     obtain ⟨_,_,_,_,ml,qk,ot, -, -⟩:=fe.ints.parts
     have pn:q.src.length <= cf:=by injection ml with h1 h2 h3;rw [h3];exact qk
     have hcf2:cf <= 9223372036854775807:=by injection ml with h1 h2 h3;rw [h3];exact ot
     obtain ⟨ix,oe⟩ : ∃ ix,ix=idxI (q.src.take sl) (b:Int):=⟨_,rfl⟩
     have ik:=fe.ints.take (k:=sl) (by rw [<-fL];exact hh)
     have rs:Hid (∀ W,Below wj.heap.size wj W -> Calls Tryz.prog 87 #[.slice af sl cf,.int .i64 (b:Int)] W fun e w'=>e = .returned (.int .i64 ix)/\Below W.heap.size W w'):=h! (fun W hW=>(oN (ik.below hW)).mono (fun e w2 ⟨h1,h2⟩=>⟨by rw [oe];exact h1,h2 ▸ Below.refl _ _⟩))
     have my:Hid (ix = -1 \/ ∃ a:Nat,ix=a/\a < sl):=h! (by
      rw [oe]
      by_cases hm:(b:Int) ∈ q.src.take sl
      ·right
       refine ⟨_,aC5 hm, ?_⟩
       have h9:=dC hm
       rw [aV] at h9
       omega
      exact .inl (tA hm))
     rw [<-fL] at z1 pn
     have hsc:sl <= cf:=bA hh pn
     have sw:=h! z1
     have rb:=h! z2
     have re:=h! k0
     have ic:=h! fL
     have HLB:=h! bn
     have ry:gp < wj.heap.size:=bl
     have kh:bb < wj.heap.size:=aR gi eb.out.size
     have nl:nn < wj.heap.size:=aR fG eb.out.size
     clear hv fy e0 cg gf fe ml qk ot ik oe hC cz ow da bw z1 z2 k0 fL bn bl
     have kw:Hid (fN wj wj):=h! (Below.refl _ _)
     obtain ⟨fo,ez,fp⟩:=gy.out
     go_upto_region 46 with (fail)
     clear kl
     --@I1
     refine wp_region_grow 18 (fun kz=>match kz with | 17=>.const (.int .i64 ix) | _=>.plain) (by kernel_rfl) (by kernel_rfl) ?_ (fun ν => ?_)
     ·(intro k;(try dsimp only);split <;> first | exact True.intro | (intro u w1 w2 hu hb;exact hu.below hb))
     simp only [aP,aU,aS,aX]
     iterate 17 (refine Grow.val (v := ?_) rfl rfl (fun wg hbg hdg => ?_) ?_;rotate_left;(focus ((obtain ⟨qz,sd,ra⟩:=gy.out.later hbg);(have z1:=(hbg.cell (p:=⟨gp,k * 4+2,none⟩) ry).trans sw.out);(have z2:=(hbg.cell (p:=⟨nn,pe+k * 4+2,none⟩) nl).trans rb.out);(have z3:=(hbg.cell (p:=⟨bb,bo+i * 6,none⟩) kh).trans re.out);clear hbg hdg;first | (go_simp;done) | (go_simp;with_reducible rfl)));simp only [Act.put,aA,aE,aF])
     refine Grow.call (f := ?_) (args := ?_) rfl (fun wg => ?_) (fun wg hbg hdg => ?_) ?_
     rotate_left 2
     focus (first | (go_simp;done) | (go_simp;refine And.intro ?_ ?_ <;> with_reducible rfl) | (go_simp;with_reducible rfl))
     focus exact Calls.mono (rs.out wg hbg) (fun e w2 ⟨he,hb2⟩=>⟨_,he,rfl,hb2⟩)
     simp only [Act.put,Known.val,aA,aE,aF]
     intro wg hb hf fc
     clear fc
     clear fo ez fp
     replace gy:=h! (gy.out.later hb)
     replace kw:=h! (kw.out.later hb)
     replace eb:=h! (eb.out.trans (hb.mono eb.out.size))
     clear hb
     obtain ⟨fo,ez,fp⟩:=gy.out
     clear hf
     --@I2
     generalize wg=wq at *
     have ef:Hid (Below wj.heap.size wj wq):=kw
     --@I3
     rcases my.out with lx | ⟨a,lx,hx2⟩
     ·subst lx
      --@I4
      go_wp2
      --@I5
      go_roundw
      --@I6
      case rel=>exact ⟨j+1,jg,iw,jn,q,hlt3,by go_num,ck.out,cq.out,ba.out,dc.out,fw.out,fB.out,cr.out.1,cr.out.2.1,by have:=cr.out.2.2;omega,bp.out.off OBlock.nice (Off.of_below ef.out Foot.none) (fun _ _ h=>h),ad.out.trans (Off.of_below ef.out _),ag.out,(ef.out.cell (p:=⟨g4,i * 6,none⟩) dy.out).trans ff.out⟩
      simp [intOf];omega
     subst lx
     --@J
     have ka:Hid (eX wq jg (.slice (some ⟨g4,0,none⟩) m4 c4) iw):=h! (bp.out.off OBlock.nice (Off.of_below ef.out Foot.none) (fun _ _ h=>h))
     have qh:=(ef.out.cell (p:=⟨g4,i * 6,none⟩) dy.out).trans ff.out
     obtain ⟨g',fh,mj,fk,af,av,cf,cv,ds,G,Sf,Sv,hv,dl,cg,bl,hfr,gf,mn,lG,fs,fe,gn,ip,qn,oo,qd,iG,kg,lh,er⟩:=ka.out.phi ba.out fB.out
     have e0:g4=g':=by injection hv with h1 h2 h3;injection h1 with h1;injection h1 with h1
     rw [<-e0,qh] at cg
     rw [<-e0] at iG kg lh dl
     simp only [dc.out] at cg fs er
     obtain ⟨rfl,rfl⟩ : gp=mj /\ fm=fk:=by injection cg with h1;injection h1 with h1 h2 h3;injection h1 with h1;injection h1 with h1;exact ⟨h1,h3⟩
     have p2:=gf.c2
     have p3:=gf.c3
     rw [<-cr.out.1, <-ic.out] at p3 lG gn
     rw [<-ic.out] at p2 mn fe
     obtain ⟨pv0,ls⟩ : ∃ pv0,q.vals[a]? = some pv0:=⟨_,aB (by have:=cr.out.1;have:=ic.out;omega)⟩
     have ol:q.vals.length=qs:=by rw [ic.out];exact cr.out.1.symm
     obtain ⟨gv,cgv,qm,hR,lz,sk,lj, -⟩:=gn.addr ls
     rw [ol] at qm
     cases qm
     have ej:In64 pv0:=gn.2 pv0 (aG ls)
     obtain ⟨pv,et⟩ : ∃ pv,pv=toP T0 pv0:=⟨_,rfl⟩
     have mp:In64 pv:=by
      rw [et]
      unfold toP
      cases ht:tyOf T0 pv0 with
      | none=>exact ej
      | some t=>exact an.out _ (mY ht)
     obtain ⟨tq,oa⟩ : ∃ tq,tq=(tyOf P (b:Int)).getD 0:=⟨_,rfl⟩
     have sb:In64 tq:=by rw [oa];exact nH eo.out _
     have kp:=h! fs
     have qf:=h! fe
     have pi:=h! gn
     have gB:=h! (And.intro mn lG)
     have dd:=h! ip
     have dq:=h! (And.intro qn (And.intro oo qd))
     have hM:=h! (And.intro iG (And.intro kg lh))
     have mt:=h! er
     have nt:=h! hR
     have qy:=h! ol
     have lS:Hid (wj.heap.size <= wq.heap.size):=h! ef.out.size
     have ie:Hid (Below w.heap.size w wq):=eb
     have cG:Hid (Off SO w9 wq):=h! (ad.out.trans (Off.of_below ef.out _))
     obtain ⟨XF,ci,bO,cd,es⟩ : ∃ XF:Nat -> Foot,(∀ z,XF 10 z ↔ Sf z)/\(∀ z,XF 25 z ↔ Sv z)/\(∀ z,XF 28 z ↔ z=gp) /\ ∀ r z,XF r z -> r=10 \/ r=25 \/ r=28 :=
      ⟨fun r=>if r=10 then Sf else if r=25 then Sv else if r=28 then Foot.one gp else Foot.none,fun z=>by simp,fun z=>by simp,fun z=>by simp [Foot.one],fun r z h=>by
       by_cases e:r=10
       ·exact .inl e
       by_cases e2:r=25
       ·exact .inr (.inl e2)
       by_cases e3:r=28
       ·exact .inr (.inr e3)
       simp only [if_neg e,if_neg e2,if_neg e3] at h;exact h.elim⟩
     have ft:=h! (And.intro ci (And.intro bO (And.intro cd es)))
     have pd:Hid (∀ z,Sf z -> z < wq.heap.size):=h! qf.out.lt
     have jz:Hid (∀ z,Sv z -> z < wq.heap.size):=h! pi.out.lt
     have qa:Hid (∀ z,(Sf z \/ wq.heap.size <= z) -> ∀ r,r ≠ 10 -> ¬ XF r z):=h! (fun z hz r hr hx=>by
      rcases es r z hx with e | e | e
      ·exact hr e
      ·subst e
       have h1:=(bO z).1 hx
       rcases hz with hz | hz
       ·exact dq.out.1 z hz h1
       have:=jz.out z h1;omega
      subst e
      have h1:=(cd z).1 hx
      subst h1
      rcases hz with hz | hz
      ·exact dq.out.2.1 _ hz dd.out
      omega)
     have ld:Hid (∀ z,(Sv z \/ wq.heap.size <= z) -> ∀ r,r ≠ 25 -> ¬ XF r z):=h! (fun z hz r hr hx=>by
      rcases es r z hx with e | e | e
      ·subst e
       have h1:=(ci z).1 hx
       rcases hz with hz | hz
       ·exact dq.out.1 z h1 hz
       have:=pd.out z h1;omega
      ·exact hr e
      subst e
      have h1:=(cd z).1 hx
      subst h1
      rcases hz with hz | hz
      ·exact dq.out.2.2 _ hz dd.out
      omega)
     have ki:Hid (∀ z,G z -> ∀ r,r ≠ 28 -> ¬ XF r z):=h! (fun z hz r hr hx=>by
      rcases es r z hx with e | e | e
      ·subst e;exact dq.out.2.1 z ((ci z).1 hx) hz
      ·subst e;exact dq.out.2.2 z ((bO z).1 hx) hz
      exact hr e)
     have mw:Hid (∀ r,XF r gp -> ¬ r ≠ 28):=h! (fun r hx hr=>ki.out gp dd.out r hr hx)
     have rx:Hid (∀ r,XF r gv -> ¬ r ≠ 25):=h! (fun r hx hr=>ld.out gv (.inl nt.out) r hr hx)
     have xW:∀ r z,XF r z -> z < wq.heap.size:=fun r z h=>by
      rcases es r z h with e | e | e
      ·subst e;exact pd.out z ((ci z).1 h)
      ·subst e;exact jz.out z ((bO z).1 h)
      subst e;have:=(cd z).1 h;omega
     have xI:∀ w w' : World,True -> Below w.heap.size w w' -> True:=fun _ _ _ _=>trivial
     have jp:True:=trivial
     have ma:Hid (∀ z,Four.All XF z -> jg z/\z ≠ g4):=h! (fun z ⟨r,h⟩=>by
      rcases es r z h with e | e | e
      ·subst e;exact hM.out.2.1 z ((ci z).1 h)
      ·subst e;exact hM.out.2.2 z ((bO z).1 h)
      subst e;have:=(cd z).1 h;subst this;exact hM.out.1 _ dd.out)
     have jt:Hid (∀ z,Four.All XF z -> w.heap.size+1+1 < z/\z ≠ pm/\z ≠ mb):=h! (fun z h=>by
      rcases ag.out z (ma.out z h).1 with h | h
      ·have:=ae.out z h;exact ⟨by omega,by omega,by omega⟩
      exact ⟨by omega,by omega,by omega⟩)
     have bc:∀ z,z < wq.heap.size -> Four.All XF z -> w.heap.size <= z:=fun z _ h=>by have:=jt.out z h;omega
     have nf:Hid (IMap wq pm (encT P)):=h! (dj.out.off cG.out (fun h=>(ae.out _ h).2.1 rfl))
     have oi:Hid (IMap wq mb (encT T0)):=h! (em.out.off cG.out (fun h=>(ae.out _ h).2.2.1 rfl))
     have sp:Hid (Box wq (w.heap.size+1+1) #[.map (some mb)]):=h! (B6.out.off cG.out (fun h=>by have:=ae.out _ h;omega))
     have rh:Hid (∀ W,Off (Four.All XF) wq W -> Calls Tryz.prog 121 #[.int .i64 pv0,.pointer (some ⟨w.heap.size+1+1,0,none⟩)] W fun e w'=>e = .returned (.int .i64 pv)/\Below W.heap.size W w'):=h! (fun W h=>by
      rw [et]
      exact uP (sp.out.off h (fun h=>by have:=jt.out _ h;omega)) (oi.out.off h (fun h=>(jt.out _ h).2.2 rfl)))
     have ms:Hid (∀ W,Off (Four.All XF) wq W -> (Instr.lookup 93 (.map (some pm)) (.int .i64 (b:Int)) false).run Tryz.prog W = .ok (.int .i64 tq) W):=h! (fun W h=>by
      rw [(nf.out.off h (fun h=>(jt.out _ h).2.1 rfl)).lookup0 Tryz.underlying93 Tryz.underlying3 (fY _) (b:Int),gR,oa]
      cases tyOf P (b:Int) <;> rfl)
     have hD:qs+1 <= 100000:=by omega
     have haq:a < qs:=by omega
     clear ci bO cd es ls hR fs fe gn ip qn oo qd iG kg lh er hv dl cg gf mn lG e0 qh ol ej et oa lj
     have rd:∀ (args:Array Value) (w:World),(callFunc 121 args).run Tryz.prog w = .ok (.enter 121 args) w:=lH
     clear fo ez fp
     go_upto_region 48 with (fail)
     --@J1
     refine Four.wp_region_grow (XF:=XF) (I:=(fun _=>True)) 29 (fun ν kz=>match kz with | 9=>.made wq.heap.size (fun b=>.slice (some ⟨b,0,none⟩) 1 1) #[.int .i64 tq] | 10=>.holds (fun u w' => ∃ (g1 c1:Nat),u = .slice (some ⟨g1,0,none⟩) (qs+1) c1/\eR w' (Foot.one g1) (u) (q.src ++ [tq])/\(Sf g1 \/ wq.heap.size <= g1)) | 23=>.const (.int .i64 pv) | 24=>.made wq.heap.size (fun b=>.slice (some ⟨b,0,none⟩) 1 1) #[.int .i64 pv] | 25=>.holds (fun u w' => ∃ (g1 c1:Nat),u = .slice (some ⟨g1,0,none⟩) (qs+1) c1/\eR w' (Foot.one g1) (u) (q.vals ++ [pv])/\(Sv g1 \/ wq.heap.size <= g1) /\ ∀ g8 c8, ν 10 = .slice (some ⟨g8,0,none⟩) (qs+1) c8 -> g1 ≠ g8) | 28=>.holds (fun u w'=>ORow w' G 78 4 (.slice (some ⟨gp,0,none⟩) pl fm) pl (ds.set (k * 4+2) (ν 10))) | _=>.plain) (by kernel_rfl) (by kernel_rfl) ?_ ?_ xW xI jp ?_ (fun ν => ?_)
     ·(intro ν k;(try dsimp only);split <;> first | exact True.intro | (intro u w1 w2 hu hb;first | (obtain ⟨g1,c1,e1,h1,h2⟩:=hu;exact ⟨g1,c1,e1,h1.off hb (fun z hz ⟨r,hr,hx⟩=>by cases hz;exact qa.out g1 h2 r hr hx),h2⟩) | (obtain ⟨g1,c1,e1,h1,h2,h3⟩:=hu;exact ⟨g1,c1,e1,h1.off hb (fun z hz ⟨r,hr,hx⟩=>by cases hz;exact ld.out g1 h2 r hr hx),h2,h3⟩) | exact hu.off hb (fun z hz ⟨r,hr,hx⟩=>ki.out z hz r hr hx)))
     ·(intro ν ν' k h;first | rfl | ((try dsimp only);split <;> first | rfl | (rw [h 10 (by kernel_rfl)])))
     ·(intro ν j B mk A h;(try dsimp only at h);split at h <;> first | (cases h;exact Nat.le_refl _) | cases h)
     simp only [aP,aU,aS,aX]
     iterate 5 (refine Four.Grow.val (v := ?_) rfl rfl (fun wg hbg hdg => ?_) ?_;rotate_left;(focus (clear hbg hdg;first | (go_simp;done) | (go_simp;with_reducible rfl)));simp only [Act.put,aA,aE,aF])
     refine Four.Grow.val (v := ?_) rfl rfl (fun wg hbg hdg => ?_) ?_
     rotate_left
     focus ((have z2:=(hbg.1.cell bl (fun ⟨z,h1,h2,h3⟩=>(fun hne=>mw.out z h3 hne) (fun e=>by subst e;exact absurd (h2.symm.trans (by kernel_rfl:_=true)) dK))).trans p2);clear hbg hdg;first | (go_simp;done) | (go_simp;with_reducible rfl))
     simp only [Act.put,aA,aE,aF]
     iterate 2 (refine Four.Grow.val (v := ?_) rfl rfl (fun wg hbg hdg => ?_) ?_;rotate_left;(focus (clear hbg hdg;first | (go_simp;done) | (go_simp;with_reducible rfl)));simp only [Act.put,aA,aE,aF])
     refine Four.Grow.val (v := ?_) rfl rfl (fun wg hbg hdg => ?_) ?_
     rotate_left
     focus ((have og:=ms.out wg hbg.off);clear hbg hdg;first | (go_simp;done) | (go_simp;with_reducible rfl))
     simp only [Act.put,aA,aE,aF]
     refine Four.Grow.made (T := ?_) rfl rfl (fun wg hbg hdg => ?_) ?_
     rotate_left
     focus (clear hbg hdg;first | (go_simp;done) | (go_simp;with_reducible rfl))
     simp only [Act.put,Known.val,aA,aE,aF]
     refine Four.Grow.gives rfl (fun wg hbg hdg => ?_) ?_
     focus ((obtain ⟨bx,e7,jd,nh⟩:=hdg 9 (by kernel_rfl));simp only [e7];exact kU (xs:=q.src) (n:=qs) _ _ rfl rfl rfl ic.out.symm (qf.out.off hbg.1 (fun z hz ⟨r,hr,_,hx⟩=>qa.out z (.inl hz) r hr hx)) nh sb hD (fun z hz=>(ft.out.1 z).2 hz) (fun g1 c1 w'' h2 h3=>⟨g1,c1,rfl,h2,h3.imp_right (bA hbg.1.size)⟩))
     simp only [Act.put,Known.val,aA,aE,aF]
     iterate 3 (refine Four.Grow.val (v := ?_) rfl rfl (fun wg hbg hdg => ?_) ?_;rotate_left;(focus (clear hbg hdg;first | (go_simp;done) | (go_simp;with_reducible rfl)));simp only [Act.put,aA,aE,aF])
     refine Four.Grow.val (v := ?_) rfl rfl (fun wg hbg hdg => ?_) ?_
     rotate_left
     focus ((have z3:=(hbg.1.cell bl (fun ⟨z,h1,h2,h3⟩=>(fun hne=>mw.out z h3 hne) (fun e=>by subst e;exact absurd (h2.symm.trans (by kernel_rfl:_=true)) dK))).trans p3);clear hbg hdg;first | (go_simp;done) | (go_simp;with_reducible rfl))
     simp only [Act.put,aA,aE,aF]
     iterate 4 (refine Four.Grow.val (v := ?_) rfl rfl (fun wg hbg hdg => ?_) ?_;rotate_left;(focus (clear hbg hdg;first | (go_simp;done) | (go_simp;with_reducible rfl)));simp only [Act.put,aA,aE,aF])
     refine Four.Grow.val (v := ?_) rfl rfl (fun wg hbg hdg => ?_) ?_
     rotate_left
     focus ((have z3:=(hbg.1.cell bl (fun ⟨z,h1,h2,h3⟩=>(fun hne=>mw.out z h3 hne) (fun e=>by subst e;exact absurd (h2.symm.trans (by kernel_rfl:_=true)) dK))).trans p3);clear hbg hdg;first | (go_simp;done) | (go_simp;with_reducible rfl))
     simp only [Act.put,aA,aE,aF]
     iterate 2 (refine Four.Grow.val (v := ?_) rfl rfl (fun wg hbg hdg => ?_) ?_;rotate_left;(focus (clear hbg hdg;first | (go_simp;done) | (go_simp;with_reducible rfl)));simp only [Act.put,aA,aE,aF])
     refine Four.Grow.val (v := ?_) rfl rfl (fun wg hbg hdg => ?_) ?_
     rotate_left
     focus ((have z4:=(hbg.1.cell lz (fun ⟨z,h1,h2,h3⟩=>(fun hne=>rx.out z h3 hne) (fun e=>by subst e;exact absurd (h2.symm.trans (by kernel_rfl:_=true)) dK))).trans sk);clear hbg hdg;first | (go_simp;done) | (go_simp;with_reducible rfl))
     simp only [Act.put,aA,aE,aF]
     refine Four.Grow.call (f := ?_) (args := ?_) rfl (fun wg => ?_) (fun wg hbg hdg => ?_) ?_
     rotate_left 2
     focus (first | (go_simp;done) | (go_simp;refine And.intro ?_ ?_ <;> with_reducible rfl) | (go_simp;with_reducible rfl))
     focus exact Calls.mono ((rh.out wg hbg.off)) (fun e w2 ⟨he,hb2⟩=>⟨_,he,rfl,hb2⟩)
     simp only [Act.put,Known.val,aA,aE,aF]
     refine Four.Grow.made (T := ?_) rfl rfl (fun wg hbg hdg => ?_) ?_
     rotate_left
     focus (clear hbg hdg;first | (go_simp;done) | (go_simp;with_reducible rfl))
     simp only [Act.put,Known.val,aA,aE,aF]
     refine Four.Grow.gives rfl (fun wg hbg hdg => ?_) ?_
     focus ((obtain ⟨bx,e7,jd,nh⟩:=hdg 24 (by kernel_rfl));(have h8:∃ (g1 c1:Nat), ν 10 = .slice (some ⟨g1,0,none⟩) (qs+1) c1/\eR wg (Foot.one g1) (ν 10) (q.src ++ [tq])/\(Sf g1 \/ wq.heap.size <= g1):=hdg 10 (by kernel_rfl));(obtain ⟨g8,c8,e8,o8,q8⟩:=h8);simp only [e7];exact kU (xs:=q.vals) (n:=qs) _ _ rfl rfl rfl qy.out (pi.out.off hbg.1 (fun z hz ⟨r,hr,_,hx⟩=>ld.out z (.inl hz) r hr hx)) nh mp hD (fun z hz=>(ft.out.2.1 z).2 hz) (fun g1 c1 w'' h2 h3=>⟨g1,c1,rfl,h2,h3.imp_right (bA hbg.1.size),fun g' c' e'=>by rw [e8] at e';cases e';intro e9;subst e9;have hlt8:=o8.lt _ rfl;rcases h3 with h3 | h3;(rcases q8 with q8 | q8;exact dq.out.1 _ q8 h3;have:=jz.out _ h3;omega);omega⟩))
     simp only [Act.put,Known.val,aA,aE,aF]
     iterate 2 (refine Four.Grow.val (v := ?_) rfl rfl (fun wg hbg hdg => ?_) ?_;rotate_left;(focus (clear hbg hdg;first | (go_simp;done) | (go_simp;with_reducible rfl)));simp only [Act.put,aA,aE,aF])
     refine Four.Grow.turns rfl (fun wg hbg hdg => ?_) ?_
     focus ((have h8:∃ (g1 c1:Nat), ν 10 = .slice (some ⟨g1,0,none⟩) (qs+1) c1/\eR wg (Foot.one g1) (ν 10) (q.src ++ [tq])/\(Sf g1 \/ wq.heap.size <= g1):=hdg 10 (by kernel_rfl));(obtain ⟨g8,c8,e8,o8,q8⟩:=h8);clear hdg;simp only [e8];(have hr:=kp.out.off hbg.1 (fun z hz ⟨r,hr,_,hx⟩=>ki.out z hz r hr hx));(obtain ⟨g9,c9,e9, -, -, -, -,jr,sa⟩:=hr.addr (by omega));cases e9;(have z2:=jr _ _ gB.out.1);refine ⟨wg.setCell ⟨gp,k * 4+2,none⟩ (.slice (some ⟨g8,0,none⟩) (qs+1) c8), ?_,hr.set rfl (by omega) _ _,⟨(Off.set wg ⟨gp,k * 4+2,none⟩ _).mono (fun z _ hz=>(ft.out.2.2.1 z).2 hz),fun h=>h⟩⟩;clear hbg hr q8 o8;(first | (go_simp;done) | (go_simp;with_reducible rfl)))
     simp only [Act.put,Known.val,aA,aE,aF]
     intro wg hb hf fc
     obtain ⟨oz,ea,hH,hL⟩:=hf 9 (by omega)
     obtain ⟨pw,dg,hY,hS⟩:=hf 24 (by omega)
     have nBXBY:oz ≠ pw:=fun e=>fc 9 24 (by omega) (by omega) (by omega) rfl rfl (by rw [ea,dg,e])
     have nBYBX:pw ≠ oz:=fun e=>fc 24 9 (by omega) (by omega) (by omega) rfl rfl (by rw [dg,ea,e])
     simp only [ea,dg]
     clear ea dg
     clear fc
     have gBX:=bA ie.out.size hH
     clear hH
     have gBY:=bA ie.out.size hY
     clear hY
     replace ie:=h! (ie.out.trans (hb.1.below ie.out.size bc))
     have BX:=h! hL
     clear hL
     have BY:=h! hS
     clear hS
     obtain ⟨lBX,cBX,fBX⟩:=BX.out
     obtain ⟨lBY,cBY,fBY⟩:=BY.out
     simp only [bH,Nat.reduceAdd]
     --@J2
     have h8:∃ (g1 c1:Nat), ν 10 = .slice (some ⟨g1,0,none⟩) (qs+1) c1/\eR wg (Foot.one g1) (ν 10) (q.src ++ [tq])/\(Sf g1 \/ wq.heap.size <= g1):=hf 10 (by omega)
     have sv:∃ (g1 c1:Nat), ν 25 = .slice (some ⟨g1,0,none⟩) (qs+1) c1/\eR wg (Foot.one g1) (ν 25) (q.vals ++ [pv])/\(Sv g1 \/ wq.heap.size <= g1) /\ ∀ g8 c8, ν 10 = .slice (some ⟨g8,0,none⟩) (qs+1) c8 -> g1 ≠ g8:=hf 25 (by omega)
     have je:ORow wg G 78 4 (.slice (some ⟨gp,0,none⟩) pl fm) pl (ds.set (k * 4+2) (ν 10)):=hf 28 (by omega)
     obtain ⟨g8,c8,e8,o8,q8⟩:=h8
     obtain ⟨fz,ji,mc,ob,gc,pf⟩:=sv
     have hne:=pf g8 c8 e8
     simp only [mc]
     rw [e8] at o8 je
     rw [mc] at ob
     obtain ⟨g9,c9,e9, -, -, -, -,jr,sa⟩:=je.addr (by omega)
     cases e9
     have z3:=jr (k * 4+3) (.slice (some ⟨gv,0,none⟩) qs cv) (by rw [cA,if_neg (by omega)];exact gB.out.2)
     have dt:Hid (Off (Four.All XF) wq wg):=h! hb.1
     have be:Hid (Off (Foot.one gp) wg (wg.setCell ⟨gp,k * 4+3,none⟩ (.slice (some ⟨fz,0,none⟩) (qs+1) ji))):=h! (Off.set wg ⟨gp,k * 4+3,none⟩ _)
     have mx:Hid (g8 ≠ gp):=h! (fun e=>by
      subst e
      rcases q8 with q8 | q8
      ·exact dq.out.2.1 _ q8 dd.out
      omega)
     have gr:Hid (fz ≠ gp):=h! (fun e=>by
      subst e
      rcases gc with gc | gc
      ·exact dq.out.2.2 _ gc dd.out
      omega)
     have kG:Hid (∀ z,Four.All XF z -> G z \/ Sf z \/ Sv z):=h! (fun z ⟨r,h⟩=>by
      rcases ft.out.2.2.2 r z h with e | e | e
      ·subst e;exact .inr (.inl ((ft.out.1 z).1 h))
      ·subst e;exact .inr (.inr ((ft.out.2.1 z).1 h))
      subst e;have:=(ft.out.2.2.1 z).1 h;subst this;exact .inl dd.out)
     have mo:=mt.out (wg.setCell ⟨gp,k * 4+3,none⟩ (.slice (some ⟨fz,0,none⟩) (qs+1) ji)) _ _ (q.src ++ [tq]) (q.vals ++ [pv]) (Foot.one g8) (Foot.one fz)
      ((dt.out.mono fun z _ h=>kG.out z h).trans (be.out.mono fun z _ hz=>by cases hz;exact .inl dd.out)) (je.set rfl (by omega) (k * 4+3) _)
      (o8.off be.out fun z h1 h2=>by cases h1;exact mx.out h2) (ob.off be.out fun z h1 h2=>by cases h1;exact gr.out h2) (fun z h1 h2=>by cases h1;exact hne h2.symm)
      (fun z hz=>by cases hz;exact q8) (fun z hz=>by cases hz;exact gc)
     obtain ⟨SN,ij,ia⟩:=mo
     have ke:=h! ij
     have ns:=h! ia
     have kn:Hid (Off SO w9 (wg.setCell ⟨gp,k * 4+3,none⟩ (.slice (some ⟨fz,0,none⟩) (qs+1) ji))):=h! ((cG.out.grow dt.out (fun z h=>ag.out z (ma.out z h).1)).grow be.out (fun z hz=>by cases hz;exact ag.out _ (hM.out.1 _ dd.out).1))
     have mf:Hid ((wg.setCell ⟨gp,k * 4+3,none⟩ (.slice (some ⟨fz,0,none⟩) (qs+1) ji)).cell? ⟨g4,i * 6,none⟩=some (.slice (some ⟨gp,0,none⟩) pl fm)):=h! (by
      have px:g4 < wq.heap.size:=aR dy.out lS.out
      have rc:g4 < wg.heap.size:=aR px dt.out.size
      rw [be.out.cellA (p:=⟨g4,i * 6,none⟩) rc (fun h=>(hM.out.1 _ dd.out).2 (by have e:g4=gp:=h;exact e.symm)),dt.out.cellA (p:=⟨g4,i * 6,none⟩) px (fun h=>(ma.out _ h).2 rfl)]
      exact (ef.out.cell (p:=⟨g4,i * 6,none⟩) dy.out).trans ff.out)
     have qi:Hid (k < jn.length/\i < iw.length):=h! ⟨by rw [dc.out];exact hlt2,by rw [ck.out];omega⟩
     clear hf hb e8 mc o8 ob je q8 gc pf hne jr ij ia rd
     --@J3
     go_wp2
     go_roundw
     case rel=>exact ⟨j+1,SN,_,jn.set k { q with src:=q.src ++ [tq],vals:=q.vals ++ [pv] }, { q with src:=q.src ++ [tq],vals:=q.vals ++ [pv] },hlt3,by go_num,by rw [bQ];exact ck.out,fun z hz=>by rw [eI (by omega)];exact cq.out z hz,dX qi.out.2,by rw [bQ];exact dc.out,fun z hz=>by rw [eI (by omega)];exact fw.out z hz,dX qi.out.1,
      by show (q.src ++ [tq]).length=(q.vals ++ [pv]).length;rw [aI,aI,cr.out.1];rfl,by show sl <= (q.src ++ [tq]).length;rw [aI];have:=cr.out.2.1;omega,by show (q.src ++ [tq]).length <= sl+(j+1);rw [aI];have:=cr.out.2.2;simp;omega,ke.out,kn.out,fun z hz=>(ns.out z hz).elim (ag.out z) (fun h=>.inr (by have:=cG.out.size;omega)),mf.out⟩
     simp [intOf];omega
    obtain rfl:n=j:=by omega
    --@K
    go_wp2
    go_roundw
    case rel=>exact ⟨k+1,jg,iw,jn,hlt2,by go_num,ck.out,cq.out,ba.out,dc.out,fun z hz=>fw.out z (by omega),bp.out,ad.out,ag.out⟩
    simp [intOf];omega
   obtain rfl:pl=k:=by omega
   --@M
   go_wp2
   go_roundw
   case rel=>exact ⟨i+1,qw,qq,bs,by go_num,ck.out,fun z hz=>cq.out z (by omega),bp.out,ad.out,ag.out⟩
   simp [intOf];omega
  skip
  --@O
  go_wp2
  go_roundw
  case rel=>exact ⟨i+1,SG,gs,bs,by go_num,ck.out,fun z hz=>cq.out z (by omega),bp.out,ad.out,ag.out⟩
  simp [intOf];omega
 obtain rfl:nb=i:=by omega
 --@Q
 have eg:Hid (Holds [w.heap.size,w.heap.size+1,w.heap.size+1+1] wv.heap.size wi SQ (fun W=>eR W SQ (.slice ay np az) f.params)):=h! (pq.out.off ad.out (fun k h1 h2=>by
  rcases gb.out k h2 with h | h
  ·exact bi.out.2.1 k h1 h
  have:=bi.out.2.2 k h1;omega))
 have bz:Hid (Holds [w.heap.size,w.heap.size+1,w.heap.size+1+1] w3.heap.size wi T (fun W=>eR W T (.slice a1 n c1) (iJ nb n))):=h! (ib.out.off ad.out (fun k h1 h2=>by
  have:=gq.out k h1
  rcases gb.out k h2 with h | h
  ·have:=bi.out.1 k h;omega
  omega))
 have dx:Hid (∀ k,SG k -> wv.heap.size <= k/\(SB k \/ w8.heap.size <= k)):=h! (fun k hk=>by
  rcases ag.out k hk with h | h
  ·exact ⟨(ae.out k h).2.2.2,gb.out k h⟩
  exact ⟨by omega,.inr (by omega)⟩)
 have ba:Hid (Holds [w.heap.size,w.heap.size+1,w.heap.size+1+1] wv.heap.size wi SG (fun W=>eX W SG (.slice (some ⟨g4,0,none⟩) m4 c4) gs)):=h! ((jE OBlock.nice bp.out (fun k hk=>(dx.out k hk).1)).low (by intro z hz;simp at hz;omega))
 have dn:Hid (Box wi (w.heap.size+1+1) #[.map (some mb)]):=h! (B6.out.off ad.out (fun h=>by have:=ae.out _ h;omega))
 clear pq ib bp fF jy
 obtain ⟨cc,bq,cn⟩:=cx.out
 obtain ⟨df,cL,dp⟩:=dn.out
 go_upto_region 52 with (fail)
 --@R
 go_region
 --@R1
 clear cc bq cn df cL dp
 have bh:=((((Only.set wi (w.heap.size+1) 0 (.slice ay np az)).put 1 (.int .i64 ar)).put 2 (.int .i64 ce)).put 3 (.slice (some ⟨g4,0,none⟩) m4 c4))
 replace dn:=h! (dn.out.only bh (by first | assumption | (simp;done) | omega))
 replace eg:=h! ((((eg.out.other (p:=⟨w.heap.size+1,0,none⟩) (.slice ay np az) (by simp)).other (p:=⟨w.heap.size+1,1,none⟩) (.int .i64 ar) (by simp)).other (p:=⟨w.heap.size+1,2,none⟩) (.int .i64 ce) (by simp)).other (p:=⟨w.heap.size+1,3,none⟩) (.slice (some ⟨g4,0,none⟩) m4 c4) (by simp))
 replace bz:=h! ((((bz.out.other (p:=⟨w.heap.size+1,0,none⟩) (.slice ay np az) (by simp)).other (p:=⟨w.heap.size+1,1,none⟩) (.int .i64 ar) (by simp)).other (p:=⟨w.heap.size+1,2,none⟩) (.int .i64 ce) (by simp)).other (p:=⟨w.heap.size+1,3,none⟩) (.slice (some ⟨g4,0,none⟩) m4 c4) (by simp))
 replace ba:=h! ((((ba.out.other (p:=⟨w.heap.size+1,0,none⟩) (.slice ay np az) (by simp)).other (p:=⟨w.heap.size+1,1,none⟩) (.int .i64 ar) (by simp)).other (p:=⟨w.heap.size+1,2,none⟩) (.int .i64 ce) (by simp)).other (p:=⟨w.heap.size+1,3,none⟩) (.slice (some ⟨g4,0,none⟩) m4 c4) (by simp))
 replace cB:=h! (bh.2.2 cB.out (by first | assumption | omega | (have:=cB.out.size;omega) | (simp;done) | (simp;omega)))
 replace cx:=h! (Box.to (A':=#[(.slice ay np az),(.int .i64 ar),(.int .i64 ce),(.slice (some ⟨g4,0,none⟩) m4 c4)]) ((((cx.out.set 0 (.slice ay np az)).set 1 (.int .i64 ar)).set 2 (.int .i64 ce)).set 3 (.slice (some ⟨g4,0,none⟩) m4 c4)) (by first | rfl | simp))
 have cj:((((wi.setCell ⟨w.heap.size+1,0,none⟩ (.slice ay np az)).setCell ⟨w.heap.size+1,1,none⟩ (.int .i64 ar)).setCell ⟨w.heap.size+1,2,none⟩ (.int .i64 ce)).setCell ⟨w.heap.size+1,3,none⟩ (.slice (some ⟨g4,0,none⟩) m4 c4)).heap.size=wi.heap.size:=bh.1
 clear bh
 generalize ((((wi.setCell ⟨w.heap.size+1,0,none⟩ (.slice ay np az)).setCell ⟨w.heap.size+1,1,none⟩ (.int .i64 ar)).setCell ⟨w.heap.size+1,2,none⟩ (.int .i64 ce)).setCell ⟨w.heap.size+1,3,none⟩ (.slice (some ⟨g4,0,none⟩) m4 c4))=ew at *
 have bh:=(Only.set ew (w.heap.size+1+1) 0 (.map (some mb)))
 replace cx:=h! (cx.out.only bh (by first | assumption | (simp;done) | omega))
 replace eg:=h! (eg.out.other (p:=⟨w.heap.size+1+1,0,none⟩) (.map (some mb)) (by simp))
 replace bz:=h! (bz.out.other (p:=⟨w.heap.size+1+1,0,none⟩) (.map (some mb)) (by simp))
 replace ba:=h! (ba.out.other (p:=⟨w.heap.size+1+1,0,none⟩) (.map (some mb)) (by simp))
 replace cB:=h! (bh.2.2 cB.out (by first | assumption | omega | (have:=cB.out.size;omega) | (simp;done) | (simp;omega)))
 replace dn:=h! (Box.to (A':=#[(.map (some mb))]) (dn.out.set 0 (.map (some mb))) (by first | rfl | simp))
 have dr:(ew.setCell ⟨w.heap.size+1+1,0,none⟩ (.map (some mb))).heap.size=wi.heap.size:=bh.1.trans cj
 clear cj
 clear bh
 generalize (ew.setCell ⟨w.heap.size+1+1,0,none⟩ (.map (some mb)))=wz at *
 clear dr
 obtain ⟨cc,bq,cn⟩:=cx.out
 obtain ⟨df,cL,dp⟩:=dn.out
 have fj:Below wz.heap.size wz wz.drew:=⟨rfl,rfl,rfl,aC _,fun _ _=>rfl⟩
 clear cc bq cn df cL dp
 replace cx:=h! (cx.out.later fj)
 replace dn:=h! (dn.out.later fj)
 replace eg:=h! (eg.out.later fj)
 replace bz:=h! (bz.out.later fj)
 replace ba:=h! (ba.out.later fj)
 replace cB:=h! (cB.out.trans (fj.mono cB.out.size))
 clear fj
 obtain ⟨cc,bq,cn⟩:=cx.out
 obtain ⟨df,cL,dp⟩:=dn.out
 generalize wz.drew=wy at *
 --@S
 go_wp2
 --@S1
 refine bodyPost_ret (v:=.tuple #[.agg #[.slice ay np az,.int .i64 ar,.int .i64 ce,.slice (some ⟨g4,0,none⟩) m4 c4],.slice a1 n c1,.map (some mb)]) (by simp [results,Tryz.results67,go_sem,bq,cL]) rfl ⟨_,_,mb,fun k=>SQ k \/ SG k,T,⟨f.params,ar,ce,gs⟩,rfl,⟨⟨_,_,SQ,SG,rfl,eg.out.now,by show eX wy SG (.slice (some ⟨g4,0,none⟩) m4 c4) gs;exact ba.out.now,fun k h1 h2 => ?_,fun k h=>.inl h,fun k h=>.inr h⟩,fun k hk=>hk.elim (eg.out.lt k) (ba.out.lt k),by rw [jq.out.1];exact qc.out.1,by rw [jq.out.2];exact qc.out.2⟩,by rw [<-co.out, <-fg.out];exact bz.out.now,fun k h1 h2 => ?_,fun k hk => ?_,fun k hk => ?_,cB.out,by show gs.length=_;rw [ck.out,sx.out,co.out,fg.out],fun j b hj => ?_⟩
 ·rcases (dx.out k h2).2 with h | h
  ·exact bi.out.2.1 k h1 h
  have:=bi.out.2.2 k h1;omega
 ·have h9:=gq.out k h2
  rcases h1 with h1 | h1
  ·have:=bi.out.2.2 k h1;omega
  rcases (dx.out k h1).2 with h | h
  ·have:=bi.out.1 k h;omega
  omega
 ·rcases hk with hk | hk
  ·have:=bi.out.2.2 k hk;omega
  have:=(dx.out k hk).1;omega
 ·have:=gq.out k hk;omega
 obtain ⟨x,y,e1,e2,e3⟩:=rz.out j b hj
 exact ⟨x,y,e1,by rw [<-co.out,cq.out (nb+j) (by omega)];exact e2,e3⟩
end
end Go.Proofs.YtagabiidbbhhmaaGreat
