/- Part 31. -/
import Derived.Test.YtagabiidbbhhmaaGreatEU30
namespace Go.Proofs.YtagabiidbbhhmaaGreat
set_option maxHeartbeats 12800000
set_option linter.all false
open Go.RowKit
def PRow (f:FuncD) (a b:Nat) (s:List Bool):Prop:=s.length=f.blocks.length /\ ∀ c,s[c]? = some true ↔ (c < b/\c < f.blocks.length/\kB f a c)
theorem PRow.start (f:FuncD) (a:Nat):PRow f a 0 (List.replicate f.blocks.length false):=by
 refine ⟨by simp,fun c=>⟨fun h => ?_,fun h=>by omega⟩⟩
 obtain ⟨h1,h2⟩:=aD.1 h
 simp at h2
theorem PRow.next {f:FuncD} {a b:Nat} {s:List Bool} {x:Bool} (h:PRow f a b s) (hb:b < f.blocks.length) (hx:x=true ↔ kB f a b):PRow f a (b+1) (s.set b x):=by
 refine ⟨by rw [bQ];exact h.1,fun c => ?_⟩
 rw [cA]
 by_cases e:b=c
 ·subst e
  rw [if_pos rfl,if_pos (by rw [h.1];exact hb)]
  constructor
  ·intro h1;simp at h1;exact ⟨by omega,hb,hx.1 h1⟩
  rintro ⟨_,_,h1⟩;rw [hx.2 h1]
 rw [if_neg e,h.2 c]
 constructor
 ·rintro ⟨h1,h2⟩;exact ⟨by omega,h2⟩
 rintro ⟨h1,h2⟩;exact ⟨by omega,h2⟩
def oT (nb:Nat) (rs:List Nat):List Value:=rs.map fun r=>Value.slice (some ⟨r,0,none⟩) nb nb
def tJ (f:FuncD) (W:World) (v:Value):Prop :=
 ∃ rs:List Nat,rs.length=f.blocks.length/\Row W v f.blocks.length 1 (oT f.blocks.length rs) /\ ∀ (j r:Nat),rs[j]? = some r -> ∃ row,PRow f j f.blocks.length row/\Box W r (gH row)
theorem tJ.below {f:FuncD} {W W' : World} {v:Value} (h:tJ f W v) (hb:Below W.heap.size W W'):tJ f W' v:=by
 obtain ⟨rs,h1,h2,h3⟩:=h
 exact ⟨rs,h1,h2.below hb,fun j r hj=>by obtain ⟨row,h4,h5⟩:=h3 j r hj;exact ⟨row,h4,h5.later hb⟩⟩
theorem tJ.parts {f:FuncD} {W:World} {v:Value} (h:tJ f W v) (hn:0 < f.blocks.length):∃ cap b off,v = .slice (some ⟨b,off,none⟩) f.blocks.length cap/\f.blocks.length <= cap/\cap <= 9223372036854775807/\b < W.heap.size /\
  ∀ a,a < f.blocks.length -> ∃ r,W.cell? ⟨b,off+a,none⟩=some (.slice (some ⟨r,0,none⟩) f.blocks.length f.blocks.length)/\r < W.heap.size /\ ∀ c,c < f.blocks.length -> ∃ x:Bool,W.cell? ⟨r,c,none⟩=some (.bool x)/\(x=true ↔ kB f a c):=by
 obtain ⟨rs,h1,h2,h3⟩:=h
 obtain ⟨a,cap,b,off,rfl,k1,k2,k3,k4⟩:=h2.parts
 obtain ⟨rfl,hb⟩:=k3 (by unfold oT;rw [bI,h1];exact hn)
 refine ⟨cap,b,off,rfl,k1,by unfold maxLen at k2;omega,hb,fun a ha => ?_⟩
 obtain ⟨r,hr⟩ : ∃ r,rs[a]? = some r:=⟨_,aB (by rw [h1];exact ha)⟩
 obtain ⟨row,aa,ab⟩:=h3 a r hr
 refine ⟨r,k4 a _ (by unfold oT;rw [aO,hr];rfl),ab.lt,fun c hc => ?_⟩
 obtain ⟨x,hx⟩ : ∃ x,row[c]? = some x:=⟨_,aB (by rw [aa.1];exact hc)⟩
 refine ⟨x,ab.at c (jR hx), ?_⟩
 have h9:=aa.2 c
 rw [hx] at h9
 constructor
 ·intro e;exact (h9.1 (by rw [e])).2.2
 ·intro e;have:=h9.2 ⟨hc,hc,e⟩;simpa using this
theorem aCF:Elem Tryz.prog 140 124 (.slice none 0 0) 1 24:=mG Tryz.underlying140 (by kernel_rfl) rfl (by omega)
set_option maxRecDepth 100000 in
theorem aD9 {w:World} {v:Value} {f:FuncD} (hv:fP w v f) (hf:gW f=true):Calls Tryz.prog 77 #[v] w fun e w' => ∃ ov,e = .returned ov/\tJ f w' ov/\Below w.heap.size w w':=by
 have HV:=h! hv
 obtain ⟨ce,cc⟩:=gG hf
 have HF:=h! hf
 obtain ⟨ap,cp,ab,cb,rfl,hp,ha,hc,hB⟩:=hv.form
 obtain ⟨nb,bc⟩ : ∃ nb,nb=f.blocks.length:=⟨_,rfl⟩
 rw [<-bc] at HV ce cc ⊢
 have ac:=h! bc
 have hn0:(0:Int) <= (nb:Int):=by omega
 have am:=run_make_row' (P:=Tryz.prog) 124 4 (.bool false) 1 Tryz.underlying124 qC rfl .i64 .i64 nb (by omega) (by omega)
 have cd:=h! am
 clear hp ha hc hB hv bc hf am
 go_enter Tryz.func77,Tryz.ntmps77
 go_upto_region 1 with (fail)
 have bp:=(Below.refl w.heap.size w).alloc (aC _) (.cells #[.slice ap f.params.length cp,.int .i64 f.arrays,.int .i64 f.cells,.slice ab nb cb] 25)
 have HW:=h! bp
 clear bp
 have B1:=h! (Box.new w #[.slice ap f.params.length cp,.int .i64 f.arrays,.int .i64 f.cells,.slice ab nb cb] 25)
 generalize w.alloc (.cells #[.slice ap f.params.length cp,.int .i64 f.arrays,.int .i64 f.cells,.slice ab nb cb] 25)=wv at *
 obtain ⟨ar,aq,ay⟩:=B1.out
 go_wp2_with fail
 refine (nJ (gone := -1) (HV.out.below HW.out) HF.out).mono ?_
 rintro e w2 ⟨sv,S,rfl,hS,bz,hb⟩
 obtain ⟨W2,ad⟩ : ∃ W2,W2=w2:=⟨_,rfl⟩
 have HS:=h! hS
 obtain ⟨sa,sc,sb,so,bm,cf,hsm,bf,bw⟩:=bz.parts
 have ao:S.length=nb:=by rw [hS.1,ac.out]
 rw [ao] at bm cf bf
 subst bm
 obtain ⟨rfl,ba⟩:=bf (by omega)
 have bx:Hid (∀ (j:Nat) (x:Bool),S[j]? = some x -> W2.cell? ⟨sb,so+j,none⟩=some (.bool x)):=h! (by rw [ad];exact bw)
 have bv:=h! ao
 rw [<-ad] at ba
 clear hS bz bw bf ao
 clear ar aq ay
 replace B1:=h! (B1.out.later hb)
 replace HW:=h! (HW.out.trans (hb.mono HW.out.size))
 clear hb
 obtain ⟨ar,aq,ay⟩:=B1.out
 have ak:Hid (Below w.heap.size w W2):=h! (by rw [ad];exact HW.out)
 have az:Hid (Box W2 w.heap.size #[.slice ap f.params.length cp,.int .i64 f.arrays,.int .i64 f.cells,.slice ab nb cb]):=h! (by rw [ad];exact B1.out)
 have aa:Hid (fN W2 w2):=h! (by rw [ad];exact Below.refl _ _)
 clear ar aq ay
 clear ad HW B1
 go_wp2_with fail
 have HO:Hid (Own (w2.alloc (.cells #[] 124)) W2.heap.size [] 124 1 (.slice (some ⟨w2.heap.size,0,none⟩) 0 0) 0 (oT nb [])):=h! (lV (Below.size aa.out) (by simp) 1)
 have bi:Hid (fN W2 (w2.alloc (.cells #[] 124))):=h! (fN.later aa.out ((Below.refl _ _).alloc (aC _) _))
 generalize w2.alloc _=w3 at *
 go_loopw [4,5] (fun u iv wr => ∃ (a:Nat) (rs:List Nat),a <= nb/\iv = .int .i64 a/\rs.length=a/\Own wr W2.heap.size rs 124 1 u a (oT nb rs)/\(∀ (j r:Nat),rs[j]? = some r -> ∃ row,PRow f j f.blocks.length row/\Box wr r (gH row))/\fN W2 wr) (fun _ iv _=>nb - (intOf iv).toNat)
 case atStart=>exact ⟨0,[],aH _,rfl,rfl,HO.out,by simp,bi.out⟩
 obtain ⟨a,rs,ha,rfl,bn,hO,hR,hS⟩:=hrel
 obtain ⟨oa,oc,rfl⟩:=hO.form
 have ai:=h! bn
 replace HO:=h! hO
 have HR:=h! hR
 replace aa:=h! hS
 clear bn hO hR hS bi
 generalize wr=w5 at *
 obtain ⟨l1,c1,f1⟩:=az.out.later aa.out
 by_cases hlt:a < nb
 ·go_wp2_with fail
  clear l1 c1 f1
  refine (nJ (gone:=(a:Int)) (HV.out.below (ak.out.trans (Below.mono aa.out ak.out.size))) HF.out).mono ?_
  rintro e w6 ⟨tv,T,rfl,hT,bO,al⟩
  have HT:=h! hT
  obtain ⟨ta,tc,tb,to,bt,cr,htm,bb,bh⟩:=bO.parts
  have ax:T.length=nb:=by rw [hT.1,ac.out]
  rw [ax] at bt cr bb
  subst bt
  obtain ⟨rfl,ci⟩:=bb (by omega)
  have cq:=h! bh
  have cl:=h! ax
  replace HO:=h! (HO.out.later al)
  replace HR:Hid (∀ (j r:Nat),rs[j]? = some r -> ∃ row,PRow f j f.blocks.length row/\Box w6 r (gH row)):=h! (fun j r h=>by obtain ⟨row,h1,h2⟩:=HR.out j r h;exact ⟨row,h1,h2.later al⟩)
  replace aa:=h! (fN.later aa.out al)
  clear hT bO bh bb ax al
  obtain ⟨l1,c1,f1⟩:=az.out.later aa.out
  have am:=cd.out
  go_upto_region 8 with (fail)
  clear l1 c1 f1 am
  have af:=(Below.refl w6.heap.size w6).alloc (aC _) (.cells (madeCells #[.bool false] nb) 4)
  have bj:Hid (∀ r ∈ rs,r < w6.heap.size):=h! (fun r hr=>by
   obtain ⟨j,hj⟩:=bJ.1 hr
   obtain ⟨row,_,h⟩:=HR.out j r hj
   exact h.lt)
  have ae:Hid (Box (w6.alloc (.cells (madeCells #[.bool false] nb) 4)) w6.heap.size (gH (List.replicate nb false))):=h! (by rw [<-lW];exact Box.new _ _ _)
  replace HO:=h! ((HO.out.more (aC _)).later af)
  replace HR:Hid (∀ (j r:Nat),rs[j]? = some r -> ∃ row,PRow f j f.blocks.length row/\Box (w6.alloc (.cells (madeCells #[.bool false] nb) 4)) r (gH row)):=h! (fun j r h=>by obtain ⟨row,h1,h2⟩:=HR.out j r h;exact ⟨row,h1,h2.later af⟩)
  have ca:=h! (Below.size aa.out)
  replace aa:=h! (fN.later aa.out af)
  have an:Hid (Below w6.heap.size w6 (w6.alloc (.cells (madeCells #[.bool false] nb) 4))):=h! af
  have ah:Hid (PRow f a 0 (List.replicate nb false)):=h! (by rw [ac.out];exact PRow.start f a)
  clear af
  generalize w6.alloc _=w7 at *
  go_wp2_with fail
  go_loopw [8] (fun iv wr => ∃ (b:Nat) (s:List Bool),b <= nb/\iv = .int .i64 b/\PRow f a b s/\Box wr w6.heap.size (gH s)/\Own wr W2.heap.size (w6.heap.size :: rs) 124 1 (.slice oa a oc) a (oT nb rs)/\(∀ (j r:Nat),rs[j]? = some r -> ∃ row,PRow f j f.blocks.length row/\Box wr r (gH row))/\fN W2 wr/\Below w6.heap.size w6 wr) (fun iv _=>nb - (intOf iv).toNat)
  case atStart=>exact ⟨0,_,aH _,rfl,ah.out,ae.out,HO.out,HR.out,aa.out,an.out⟩
  obtain ⟨b,s,hb,rfl,hP,bo,hO,hR,hS,h6⟩:=hrel
  replace ah:=h! hP
  replace ae:=h! bo
  replace HO:=h! hO
  replace HR:=h! hR
  replace aa:=h! hS
  replace an:=h! h6
  clear hP bo hO hR hS h6
  generalize wr=w8 at *
  obtain ⟨l1,c1,f1⟩:=az.out.later aa.out
  by_cases hltb:b < nb
  ·obtain ⟨xa,aw⟩ : ∃ x,S[a]? = some x:=⟨_,aB (by rw [bv.out];exact hlt)⟩
   obtain ⟨xb,bg⟩ : ∃ x,S[b]? = some x:=⟨_,aB (by rw [bv.out];exact hltb)⟩
   obtain ⟨xt,be⟩ : ∃ x,T[b]? = some x:=⟨_,aB (by rw [cl.out];exact hltb)⟩
   have d1:=(Below.cell aa.out (p:=⟨sb,so+a,none⟩) ba).trans (bx.out a xa aw)
   have d2:=(Below.cell aa.out (p:=⟨sb,so+b,none⟩) ba).trans (bx.out b xb bg)
   have d3:=(an.out.cell (p:=⟨tb,to+b,none⟩) ci).trans (cq.out b xt be)
   have bs:(xa && (xb && !xt))=true ↔ kB f a b:=by
    have h1:=HS.out.2 a
    have h2:=HS.out.2 b
    have h3:=HT.out.2 b
    rw [aw] at h1
    rw [bg] at h2
    rw [be] at h3
    unfold kB
    rw [<-h1, <-h2, <-h3]
    simp
   have ct:=h! bs
   obtain ⟨l2,c2,f2⟩:=ae.out
   obtain ⟨y,hy⟩ : ∃ y,s[b]? = some y:=⟨_,aB (by rw [ah.out.1, <-ac.out];exact hltb)⟩
   have hfl:=jR hy
   clear aw bg be bs hy
   have cn:Hid (∀ x:Bool,(x=true ↔ kB f a b) -> PRow f a (b+1) (s.set b x)/\Box (w8.setCell ⟨w6.heap.size,b,none⟩ (.bool x)) w6.heap.size (gH (s.set b x))/\Own (w8.setCell ⟨w6.heap.size,b,none⟩ (.bool x)) W2.heap.size (w6.heap.size :: rs) 124 1 (.slice oa a oc) a (oT nb rs) /\
     (∀ (j r:Nat),rs[j]? = some r -> ∃ row,PRow f j f.blocks.length row/\Box (w8.setCell ⟨w6.heap.size,b,none⟩ (.bool x)) r (gH row))/\fN W2 (w8.setCell ⟨w6.heap.size,b,none⟩ (.bool x))/\Below w6.heap.size w6 (w8.setCell ⟨w6.heap.size,b,none⟩ (.bool x))):=h! (fun x hx =>
    ⟨ah.out.next (by rw [<-ac.out];exact hltb) hx,by have h9:=ae.out.set b (.bool x);rwa [lX] at h9,HO.out.other _ (by simp),fun j r hj=>by obtain ⟨row,h1,h2⟩:=HR.out j r hj;exact ⟨row,h1,h2.other _ (fun e=>by have:=bj.out r (aG hj);simp only at e;omega)⟩,
     Below.setCell aa.out (p:=⟨w6.heap.size,b,none⟩) ca.out _,an.out.setCell (p:=⟨w6.heap.size,b,none⟩) (aC _) _⟩)
   cases xa <;> cases xb <;> cases xt
   all_goals
    go_wp2
    go_roundw
    case rel=>exact ⟨b+1,_,hltb,by go_num,cn.out _ ct.out⟩
    simp [intOf];omega
  have bk:b=nb:=by omega
  have hs8:=Below.size aa.out
  have hl6:=ae.out.lt
  have cv:Hid (∀ r ∈ rs,r < w8.heap.size):=h! (fun r hr=>by have:=bj.out r hr;omega)
  go_wp2_with (at_builtin;refine gJ rfl _ _ 140 124 rfl aCF rfl rfl (HO.out.alloc _) (Row.of_box (n:=1) (size:=1) (Box.new _ _ _) rfl (by omega)) (by simp [Value.oneCell']) (by unfold maxLen;omega) (by omega) (by simp;omega) (by intro y hy;simp only [bR] at hy;simp only [World.size_alloc];rcases hy with rfl | hy;omega;have:=cv.out y hy;omega) ?_;intro v9 w9 bq ag bl;have cj:=h! bq;have cs:=h! bl;have br:=h! ag;clear bq ag bl)
  have ch:Hid (∀ (j r:Nat),(rs ++ [w6.heap.size])[j]? = some r -> ∃ row,PRow f j f.blocks.length row/\Box w9 r (gH row)):=h! (fun j r hj=>by
   rw [cR] at hj
   split at hj
   ·obtain ⟨row,h1,h2⟩:=HR.out j r hj
    exact ⟨row,h1,br.out _ _ (by simp [aG hj]) (h2.alloc _)⟩
   rename_i hjl
   have cw:j=a:=by
    have:=(aD.1 hj).1
    have:=ai.out
    simp at *;omega
   have cm:r=w6.heap.size:=by
    have e9:j - rs.length=0:=by have:=ai.out;omega
    rw [e9] at hj
    simpa using hj.symm
   subst cm
   refine ⟨s, ?_,br.out _ _ (by simp) (ae.out.alloc _)⟩
   have h9:=ah.out
   rw [bk,ac.out, <-cw] at h9
   exact h9)
  have cg:Hid (Own w9 W2.heap.size (rs ++ [w6.heap.size]) 124 1 v9 (a+1) (oT nb (rs ++ [w6.heap.size]))):=h! (by
   have h9:oT nb (rs ++ [w6.heap.size])=oT nb rs ++ [.slice (some ⟨w6.heap.size,0,none⟩) nb nb]:=by simp [oT]
   rw [h9]
   exact cj.out.less (by intro y hy;simp at hy ⊢;rcases hy with hy | hy <;> simp [hy]))
  have co:Hid (fN W2 w9):=h! (Below.trans (fN.later aa.out ((Below.refl _ _).alloc (aC _) _)) cs.out)
  clear bk
  go_roundw
  case rel=>exact ⟨a+1,rs ++ [w6.heap.size],hlt,by go_num,by rw [aI,ai.out];rfl,cg.out,ch.out,co.out⟩
  simp [intOf];omega
 have aj:a=nb:=by omega
 have bd:Hid (tJ f w5 (.slice oa a oc)):=h! ⟨rs,by rw [ai.out,aj,ac.out],by
  have h9:=HO.out.reads (by omega)
  rw [aj,ac.out] at h9
  rw [aj,ac.out];exact h9,HR.out⟩
 have ck:=h! (ak.out.trans (Below.mono aa.out ak.out.size))
 clear aj
 go_wp2
 go_ret
 exact ⟨_,rfl,bd.out,ck.out⟩
def PhiV (W:World) (v:Value) (p:PhiD):Prop := ∃ s u,v = .agg #[.int .i64 p.id,.int .i64 p.typ,s,u]/\Ints W s p.src/\Ints W u p.vals
theorem PhiV.below {W W' : World} {v:Value} {p:PhiD} (h:PhiV W v p) (hb:Below W.heap.size W W'):PhiV W' v p:=by
 obtain ⟨s,u,e,h1,h2⟩:=h
 exact ⟨s,u,e,h1.below hb,h2.below hb⟩
theorem aEA {w:World} {v:Value} {ps:List PhiD} {k:FuncId} {cap:Array Value} (eg:Enters Tryz.prog k) (g:PhiD -> Bool) (hv:eU PhiR 4 w v ps)
  (hstep:∀ (W:World) (p:PhiD) (pv:Value),p ∈ ps -> PhiV W pv p -> Below w.heap.size w W -> Calls Tryz.prog k (#[pv] ++ cap) W fun e W'=>e = .returned (.bool (g p))/\Below W.heap.size W W') :
  Calls Tryz.prog 107 #[v,.func (.func k) #[] cap] w fun e w' => ∃ r:Int,e = .returned (.int .i64 r)/\decide (0 <= r)=ps.any g/\Below w.heap.size w w':=by
 obtain ⟨a1,c1,b1,o1,rfl,ah,hm1,am,ab,hx⟩:=fH hv
 obtain ⟨n1,ad⟩ : ∃ n,n=ps.length:=⟨_,rfl⟩
 rw [<-ad] at ah am ab ⊢
 have G1:=h! ad
 have an:=h! ab
 have HX:=h! hx
 have HW:=h! (Below.refl w.heap.size w)
 have al:=h! hstep
 clear hv ad ab hx hstep
 have eg1:∀ (args:Array Value) (w:World),(callFunc k args).run Tryz.prog w = .ok (.enter k args) w:=eg
 go_enter Tryz.func107,Tryz.ntmps107
 go_wp2_with fail
 go_loopw [8] (fun i wr => ∃ j:Nat,j <= n1/\i = .int .i64 j/\(ps.take j).any g=false/\Below w.heap.size w wr) (fun i _=>n1 - (intOf i).toNat)
 case atStart=>exact ⟨0,aH _,rfl,rfl,HW.out⟩
 case round =>
  obtain ⟨j,hj,rfl,hs,hW⟩:=hrel
  have HS:=h! hs
  replace HW:=h! hW
  clear hs hW
  generalize wr=w3 at *
  by_cases hlt:j < n1
  ·obtain ⟨rfl,ak⟩:=an.out (by omega)
   obtain ⟨p,aa⟩ : ∃ p,ps[j]? = some p:=⟨_,aB (by have:=G1.out;omega)⟩
   obtain ⟨af,av,cf,cv,hP⟩:=HX.out j p aa
   obtain ⟨m0,m1,m2,m3,r1,r2,r3,r4⟩:=hP.below HW.out ak
   have ag:=h! (aG aa)
   have ai:=h! (eS ps j p aa)
   obtain ⟨c,hc⟩ : ∃ c,c=g p:=⟨_,rfl⟩
   have HC:=h! hc
   have HCT:=h! (al.out w3 p (.agg #[.int .i64 p.id,.int .i64 p.typ,.slice af p.src.length cf,.slice av p.vals.length cv]) ag.out ⟨_,_,rfl,r1,r2⟩ HW.out)
   rw [<-hc] at HCT
   clear hc aa hP r1 r2 r3 r4
   cases c
   ·go_wp2_with (go_at_fn k;refine HCT.out.mono ?_;rintro e w4 ⟨rfl,hb4⟩;have HB4:=h! hb4;clear hb4)
    have ae:=h! (HW.out.trans (HB4.out.mono HW.out.size))
    have aj:Hid ((ps.take (j+1)).any g=false):=h! (by rw [ai.out,List.any_append,HS.out];simp [<-HC.out])
    go_roundw
    case rel=>exact ⟨j+1,hlt,by go_num,aj.out,ae.out⟩
    simp [intOf];omega
   go_wp2_with (go_at_fn k;refine HCT.out.mono ?_;rintro e w4 ⟨rfl,hb4⟩;have HB4:=h! hb4;clear hb4)
   have ae:=h! (HW.out.trans (HB4.out.mono HW.out.size))
   have ac:Hid (ps.any g=true):=h! (by rw [eM];exact ⟨p,ag.out,HC.out.symm⟩)
   go_ret
   exact ⟨j,rfl,by rw [ac.out];simp,ae.out⟩
  have ac:Hid (ps.any g=false):=h! (by have h9:=HS.out;rw [aJ (by have:=G1.out;omega)] at h9;exact h9)
  go_wp2
  go_ret
  exact ⟨-1,rfl,by rw [ac.out];simp,HW.out⟩
theorem aCG {w:World} {v:Value} {ps:List PhiD} {k:FuncId} {cap:Array Value} (eg:Enters Tryz.prog k) (g:PhiD -> Bool) (hv:eU PhiR 4 w v ps)
  (hstep:∀ (W:World) (p:PhiD) (pv:Value),p ∈ ps -> PhiV W pv p -> Below w.heap.size w W -> Calls Tryz.prog k (#[pv] ++ cap) W fun e W'=>e = .returned (.bool (g p))/\Below W.heap.size W W') :
  Calls Tryz.prog 139 #[v,.func (.func k) #[] cap] w fun e w'=>e = .returned (.bool (ps.any g))/\Below w.heap.size w w':=by
 have HC:=h! (aEA eg g hv hstep)
 clear hv hstep
 go_enter Tryz.func139,Tryz.ntmps139
 go_wp2_with fail
 refine HC.out.mono ?_
 rintro e w2 ⟨r,rfl,hr,hb⟩
 have HR:=h! hr
 have HB:=h! hb
 clear hr hb
 go_wp2
 go_ret
 exact ⟨gQ HR.out,HB.out⟩
structure StrM (f:FuncD) (W:World) (bs bt bg lg lcap bm:Nat) (g:Array Value) (pv ov lv A2:Value) (O:List Nat) (I:Nat -> Option Nat):Prop where
 s:Box W bs #[.pointer (some ⟨bt,0,none⟩),A2,.map (some bm)]
 t:TreeM f W bt bg lg lcap g pv ov lv O I
 mp:IMap W bm (defM (entF f))
theorem StrM.later {f:FuncD} {W W' : World} {bs bt bg lg lcap bm:Nat} {g:Array Value} {pv ov lv A2:Value} {O:List Nat} {I:Nat -> Option Nat} (h:StrM f W bs bt bg lg lcap bm g pv ov lv A2 O I) (hb:Below W.heap.size W W'):StrM f W' bs bt bg lg lcap bm g pv ov lv A2 O I :=
 ⟨h.s.later hb,h.t.later hb,h.mp.later hb⟩
theorem StrM.alloc {f:FuncD} {W:World} {bs bt bg lg lcap bm:Nat} {g:Array Value} {pv ov lv A2:Value} {O:List Nat} {I:Nat -> Option Nat} (h:StrM f W bs bt bg lg lcap bm g pv ov lv A2 O I) (o:Obj):StrM f (W.alloc o) bs bt bg lg lcap bm g pv ov lv A2 O I:=h.later ((Below.refl _ _).alloc (aC _) o)
def kI (f:FuncD) (d k b at_:Int):Prop:=(d=b/\k < at_) \/ (d ≠ b/\kB f d.toNat b.toNat)
set_option maxRecDepth 100000 in
theorem ahead {f:FuncD} {w:World} {bs bt bg lg lcap bm:Nat} {g:Array Value} {pv ov lv A2:Value} {O:List Nat} {I:Nat -> Option Nat} (hS:StrM f w bs bt bg lg lcap bm g pv ov lv A2 O I) (hO:fT f O) (hD:DomI f O I) (hc:eV f=0)
  {id d k b at_:Int} (he:((entF f).find? fun e=>e.1 == id)=some (id,d,k)) (hd:0 <= d/\d < (f.blocks.length:Int)) (hb:0 <= b/\b < (f.blocks.length:Int)) :
  Calls Tryz.prog 145 #[.pointer (some ⟨bs,0,none⟩),.int .i64 id,.int .i64 b,.int .i64 at_] w fun e w' => ∃ r:Bool,e = .returned (.bool r)/\(r=true ↔ kI f d k b at_)/\Below w.heap.size w w':=by
 have HI:=h! hS.mp
 have HG:Hid (mget (defM (entF f)) id=some (.agg #[.int .i64 d,.int .i64 k])):=h! (by rw [aAK hc,he];rfl)
 obtain ⟨dn,rfl⟩ : ∃ dn:Nat,d=(dn:Int):=⟨d.toNat,by omega⟩
 obtain ⟨bn,rfl⟩ : ∃ bn:Nat,b=(bn:Int):=⟨b.toNat,by omega⟩
 have ah:=h! (fun (W:World) (hW:Below w.heap.size w W)=>uU (a:=dn) (b:=bn) (hS.t.later hW) hO hD (gG (eY hc).1).2 (by omega) (by omega))
 have HS:=h! hS
 obtain ⟨l1,c1,f1⟩:=hS.s
 clear hS hO hD hc he hd hb
 by_cases hdb:dn=bn
 ·have hq:((dn:Int) == (bn:Int))=true:=by simp [hdb]
  have ab:=h! hdb
  clear hdb
  go_enter Tryz.func145,Tryz.ntmps145
  go_wp2_with (at_lookup;refine lI (q:=.i64) (z:=.agg #[.int .i64 0,.int .i64 0]) (b:=bm) (mm:=defM (entF f)) (y:=id) rfl _ _ _ rfl Tryz.underlying94 Tryz.underlying3 (tI _) rfl HI.out rfl ?_;rw [HG.out];simp only [dI])
  have HW:=h! ((Below.refl w.heap.size w).alloc (aC _) (.cells #[.int .i64 dn,.int .i64 k] 171))
  go_ret
  exact ⟨decide (k < at_),rfl,by rw [decide_eq_true_iff];unfold kI;have:=ab.out;constructor;exact fun h=>.inl ⟨by omega,h⟩;exact fun h=>h.elim (fun h=>h.2) (fun h=>absurd (by omega) h.1),HW.out⟩
 ·have hq:((dn:Int) == (bn:Int))=false:=by simp;omega
  have ab:=h! hdb
  clear hdb
  go_enter Tryz.func145,Tryz.ntmps145
  go_upto_region 4 with (at_lookup;refine lI (q:=.i64) (z:=.agg #[.int .i64 0,.int .i64 0]) (b:=bm) (mm:=defM (entF f)) (y:=id) rfl _ _ _ rfl Tryz.underlying94 Tryz.underlying3 (tI _) rfl HI.out rfl ?_;rw [HG.out];simp only [dI])
  clear l1 c1 f1
  have HW:=h! ((Below.refl w.heap.size w).alloc (aC _) (.cells #[.int .i64 dn,.int .i64 k] 171))
  have BX:=h! (Box.new w #[.int .i64 dn,.int .i64 k] 171)
  obtain ⟨bx,aa⟩ : ∃ bx,bx=w.heap.size:=⟨_,rfl⟩
  have e9:(⟨w.heap.size,0,none⟩ : Addr)=⟨bx,0,none⟩:=by rw [aa]
  rw [<-aa] at BX
  simp only [<-aa]
  generalize w.alloc _=w1 at *
  clear aa e9
  obtain ⟨af,ad,ag⟩:=BX.out
  refine wp_region_grow 9 (fun kz=>match kz with | 7=>.holds (fun u w' => ∃ r:Bool,u = .bool r/\(r=true ↔ kB f dn bn)) | _=>.plain) (by kernel_rfl) (by kernel_rfl) ?_ (fun ν => ?_)
  ·(intro k;(try dsimp only);split <;> first | exact True.intro | (intro u w1 w2 hu hb;exact hu))
  simp only [aP,aU,aS,aX]
  iterate 7 (refine Grow.val (v := ?_) rfl rfl (fun wg hbg hdg => ?_) ?_;rotate_left;(focus ((obtain ⟨lg0,cg0,fg0⟩:=BX.out.later hbg);(obtain ⟨xl1,xc1,xf1⟩:=(HS.out.later (HW.out.trans (hbg.mono HW.out.size))).s);clear hbg hdg;first | (go_simp;done) | (go_simp;with_reducible rfl)));simp only [Act.put,aA,aE,aF])
  refine Grow.call (f := ?_) (args := ?_) rfl (fun wg => ?_) (fun wg hbg hdg => ?_) ?_
  rotate_left 2
  focus (first | (go_simp;done) | (go_simp;refine And.intro ?_ ?_ <;> with_reducible rfl) | (go_simp;with_reducible rfl))
  focus exact ((ah.out wg (HW.out.trans (hbg.mono HW.out.size))).mono (fun e w2 ⟨r,he,hr,hw⟩=>⟨_,he,⟨r,rfl,hr⟩,hw ▸ Below.refl _ _⟩))
  simp only [Act.put,Known.val,aA,aE,aF]
  refine Grow.val (v := ?_) rfl rfl (fun wg hbg hdg => ?_) ?_
  rotate_left
  focus ((obtain ⟨lg0,cg0,fg0⟩:=BX.out.later hbg);(obtain ⟨xl1,xc1,xf1⟩:=(HS.out.later (HW.out.trans (hbg.mono HW.out.size))).s);clear hbg hdg;first | (go_simp;done) | (go_simp;with_reducible rfl))
  simp only [Act.put,aA,aE,aF]
  intro wg hb hf ai
  clear ai
  clear af ad ag
  replace BX:=h! (BX.out.later hb)
  replace HW:=h! (HW.out.trans (hb.mono HW.out.size))
  clear hb
  obtain ⟨af,ad,ag⟩:=BX.out
  simp only [bH,Nat.reduceAdd]
  have hS:∃ r:Bool, ν 7 = .bool r/\(r=true ↔ kB f dn bn):=hf 7 (by omega)
  obtain ⟨r,ac,ae⟩:=hS
  simp only [ac]
  have HR:Hid (r=true ↔ kI f dn k bn at_):=h! (by
   unfold kI
   rw [ae]
   have:=ab.out
   exact ⟨fun h=>.inr ⟨by omega,by simpa using h⟩,fun h=>h.elim (fun h=>absurd h.1 (by omega)) (fun h=>by simpa using h.2)⟩)
  clear hf ac ae
  go_wp2
  go_ret
  exact ⟨r,rfl,HR.out,HW.out⟩
end Go.Proofs.YtagabiidbbhhmaaGreat
