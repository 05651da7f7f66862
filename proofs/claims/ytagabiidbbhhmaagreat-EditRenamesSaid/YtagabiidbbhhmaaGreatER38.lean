/- Part 38. -/
import Derived.Test.YtagabiidbbhhmaaGreatER28
import Derived.Test.YtagabiidbbhhmaaGreatER37
namespace Go.Proofs.YtagabiidbbhhmaaGreat
set_option maxHeartbeats 12800000
set_option linter.all false
open Go.RowKit
def PRow (f:FuncD) (a b:Nat) (s:List Bool):Prop:=s.length=f.blocks.length /\ ∀ c,s[c]? = some true ↔ (c < b/\c < f.blocks.length/\kJ f a c)
theorem PRow.start (f:FuncD) (a:Nat):PRow f a 0 (List.replicate f.blocks.length false):=by
 refine ⟨by simp,fun c=>⟨fun h => ?_,fun h=>by omega⟩⟩
 obtain ⟨h1,h2⟩:=aF.1 h
 simp at h2
theorem PRow.next {f:FuncD} {a b:Nat} {s:List Bool} {x:Bool} (h:PRow f a b s) (hb:b < f.blocks.length) (hx:x=true ↔ kJ f a b):PRow f a (b+1) (s.set b x):=by
 refine ⟨by rw [bX];exact h.1,fun c => ?_⟩
 rw [cJ]
 by_cases e:b=c
 ·subst e
  rw [if_pos rfl,if_pos (by rw [h.1];exact hb)]
  constructor
  ·intro h1;simp at h1;exact ⟨by omega,hb,hx.1 h1⟩
  rintro ⟨_,_,h1⟩;rw [hx.2 h1]
 rw [if_neg e,h.2 c]
 constructor
 ·rintro ⟨h1,h2⟩;exact ⟨by omega,h2⟩
 rintro ⟨h1,h2⟩;exact ⟨by omega,h2⟩
def oX (nb:Nat) (rs:List Nat):List Value:=rs.map fun r=>Value.slice (some ⟨r,0,none⟩) nb nb
def uE (f:FuncD) (W:World) (v:Value):Prop :=
 ∃ rs:List Nat,rs.length=f.blocks.length/\Row W v f.blocks.length 1 (oX f.blocks.length rs) /\ ∀ (j r:Nat),rs[j]? = some r -> ∃ row,PRow f j f.blocks.length row/\Box W r (gO row)
theorem uE.below {f:FuncD} {W W' : World} {v:Value} (h:uE f W v) (hb:Below W.heap.size W W'):uE f W' v:=by
 obtain ⟨rs,h1,h2,h3⟩:=h
 exact ⟨rs,h1,h2.below hb,fun j r hj=>by obtain ⟨row,h4,h5⟩:=h3 j r hj;exact ⟨row,h4,h5.later hb⟩⟩
theorem uE.parts {f:FuncD} {W:World} {v:Value} (h:uE f W v) (hn:0 < f.blocks.length):∃ cap b off,v = .slice (some ⟨b,off,none⟩) f.blocks.length cap/\f.blocks.length <= cap/\cap <= 9223372036854775807/\b < W.heap.size /\
  ∀ a,a < f.blocks.length -> ∃ r,W.cell? ⟨b,off+a,none⟩=some (.slice (some ⟨r,0,none⟩) f.blocks.length f.blocks.length)/\r < W.heap.size /\ ∀ c,c < f.blocks.length -> ∃ x:Bool,W.cell? ⟨r,c,none⟩=some (.bool x)/\(x=true ↔ kJ f a c):=by
 obtain ⟨rs,h1,h2,h3⟩:=h
 obtain ⟨a,cap,b,off,rfl,k1,k2,k3,k4⟩:=h2.parts
 obtain ⟨rfl,hb⟩:=k3 (by unfold oX;rw [aW,h1];exact hn)
 refine ⟨cap,b,off,rfl,k1,by unfold maxLen at k2;omega,hb,fun a ha => ?_⟩
 obtain ⟨r,hr⟩ : ∃ r,rs[a]? = some r:=⟨_,aC (by rw [h1];exact ha)⟩
 obtain ⟨row,aa,ab⟩:=h3 a r hr
 refine ⟨r,k4 a _ (by unfold oX;rw [aQ,hr];rfl),ab.lt,fun c hc => ?_⟩
 obtain ⟨x,hx⟩ : ∃ x,row[c]? = some x:=⟨_,aC (by rw [aa.1];exact hc)⟩
 refine ⟨x,ab.at c (jA hx), ?_⟩
 have h9:=aa.2 c
 rw [hx] at h9
 constructor
 ·intro e;exact (h9.1 (by rw [e])).2.2
 ·intro e;have:=h9.2 ⟨hc,hc,e⟩;simpa using this
theorem aCT:Elem Tryz.prog 140 124 (.slice none 0 0) 1 24:=lQ Tryz.underlying140 (by kernel_rfl) rfl (by omega)
set_option maxRecDepth 100000 in
theorem aEC {w:World} {v:Value} {f:FuncD} (hv:fU w v f) (hf:gW f=true):Calls Tryz.prog 77 #[v] w fun e w' => ∃ ov,e = .returned ov/\uE f w' ov/\Below w.heap.size w w':=by
 have HV:=h! hv
 obtain ⟨cc,cv⟩:=iE hf
 have HF:=h! hf
 obtain ⟨ap,cp,ab,cb,rfl,hp,ha,hc,hB⟩:=hv.form
 obtain ⟨nb,bb⟩ : ∃ nb,nb=f.blocks.length:=⟨_,rfl⟩
 rw [<-bb] at HV cc cv ⊢
 have ac:=h! bb
 have hn0:(0:Int) <= (nb:Int):=by omega
 have ak:=run_make_row' (P:=Tryz.prog) 124 4 (.bool false) 1 Tryz.underlying124 oJ rfl .i64 .i64 nb (by omega) (by omega)
 have ck:=h! ak
 clear hp ha hc hB hv bb hf ak
 go_enter Tryz.func77,Tryz.ntmps77
 go_upto_region 1 with (fail)
 have bo:=(Below.refl w.heap.size w).alloc (aB _) (.cells #[.slice ap f.params.length cp,.int .i64 f.arrays,.int .i64 f.cells,.slice ab nb cb] 25)
 have HW:=h! bo
 clear bo
 have B1:=h! (Box.new w #[.slice ap f.params.length cp,.int .i64 f.arrays,.int .i64 f.cells,.slice ab nb cb] 25)
 generalize w.alloc (.cells #[.slice ap f.params.length cp,.int .i64 f.arrays,.int .i64 f.cells,.slice ab nb cb] 25)=wv at *
 obtain ⟨be,bf,bc⟩:=B1.out
 go_wp2_with fail
 refine (nP (gone := -1) (HV.out.below HW.out) HF.out).mono ?_
 rintro e w2 ⟨sv,S,rfl,hS,bO,hb⟩
 obtain ⟨W2,ad⟩ : ∃ W2,W2=w2:=⟨_,rfl⟩
 have HS:=h! hS
 obtain ⟨sa,sc,sb,so,bs,cm,hsm,aw,bt⟩:=bO.parts
 have bd:S.length=nb:=by rw [hS.1,ac.out]
 rw [bd] at bs cm aw
 subst bs
 obtain ⟨rfl,aq⟩:=aw (by omega)
 have bv:Hid (∀ (j:Nat) (x:Bool),S[j]? = some x -> W2.cell? ⟨sb,so+j,none⟩=some (.bool x)):=h! (by rw [ad];exact bt)
 have bx:=h! bd
 rw [<-ad] at aq
 clear hS bO bt aw bd
 clear be bf bc
 replace B1:=h! (B1.out.later hb)
 replace HW:=h! (HW.out.trans (hb.mono HW.out.size))
 clear hb
 obtain ⟨be,bf,bc⟩:=B1.out
 have ai:Hid (Below w.heap.size w W2):=h! (by rw [ad];exact HW.out)
 have bg:Hid (Box W2 w.heap.size #[.slice ap f.params.length cp,.int .i64 f.arrays,.int .i64 f.cells,.slice ab nb cb]):=h! (by rw [ad];exact B1.out)
 have aa:Hid (gA W2 w2):=h! (by rw [ad];exact Below.refl _ _)
 clear be bf bc
 clear ad HW B1
 go_wp2_with fail
 have HO:Hid (Own (w2.alloc (.cells #[] 124)) W2.heap.size [] 124 1 (.slice (some ⟨w2.heap.size,0,none⟩) 0 0) 0 (oX nb [])):=h! (kE (Below.size aa.out) (by simp) 1)
 have bz:Hid (gA W2 (w2.alloc (.cells #[] 124))):=h! (gA.later aa.out ((Below.refl _ _).alloc (aB _) _))
 generalize w2.alloc _=w3 at *
 go_loopw [4,5] (fun u iv wr => ∃ (a:Nat) (rs:List Nat),a <= nb/\iv = .int .i64 a/\rs.length=a/\Own wr W2.heap.size rs 124 1 u a (oX nb rs)/\(∀ (j r:Nat),rs[j]? = some r -> ∃ row,PRow f j f.blocks.length row/\Box wr r (gO row))/\gA W2 wr) (fun _ iv _=>nb - (intOf iv).toNat)
 case atStart=>exact ⟨0,[],aJ _,rfl,rfl,HO.out,by simp,bz.out⟩
 obtain ⟨a,rs,ha,rfl,bh,hO,hR,hS⟩:=hrel
 obtain ⟨oa,oc,rfl⟩:=hO.form
 have am:=h! bh
 replace HO:=h! hO
 have HR:=h! hR
 replace aa:=h! hS
 clear bh hO hR hS bz
 generalize wr=w5 at *
 obtain ⟨l1,c1,f1⟩:=bg.out.later aa.out
 by_cases hlt:a < nb
 ·go_wp2_with fail
  clear l1 c1 f1
  refine (nP (gone:=(a:Int)) (HV.out.below (ai.out.trans (Below.mono aa.out ai.out.size))) HF.out).mono ?_
  rintro e w6 ⟨tv,T,rfl,hT,bn,al⟩
  have HT:=h! hT
  obtain ⟨ta,tc,tb,to,bl,cs,htm,ar,bw⟩:=bn.parts
  have az:T.length=nb:=by rw [hT.1,ac.out]
  rw [az] at bl cs ar
  subst bl
  obtain ⟨rfl,cw⟩:=ar (by omega)
  have cq:=h! bw
  have cg:=h! az
  replace HO:=h! (HO.out.later al)
  replace HR:Hid (∀ (j r:Nat),rs[j]? = some r -> ∃ row,PRow f j f.blocks.length row/\Box w6 r (gO row)):=h! (fun j r h=>by obtain ⟨row,h1,h2⟩:=HR.out j r h;exact ⟨row,h1,h2.later al⟩)
  replace aa:=h! (gA.later aa.out al)
  clear hT bn bw ar az al
  obtain ⟨l1,c1,f1⟩:=bg.out.later aa.out
  have ak:=ck.out
  go_upto_region 8 with (fail)
  clear l1 c1 f1 ak
  have ah:=(Below.refl w6.heap.size w6).alloc (aB _) (.cells (madeCells #[.bool false] nb) 4)
  have bp:Hid (∀ r ∈ rs,r < w6.heap.size):=h! (fun r hr=>by
   obtain ⟨j,hj⟩:=bL.1 hr
   obtain ⟨row,_,h⟩:=HR.out j r hj
   exact h.lt)
  have ae:Hid (Box (w6.alloc (.cells (madeCells #[.bool false] nb) 4)) w6.heap.size (gO (List.replicate nb false))):=h! (by rw [<-kQ];exact Box.new _ _ _)
  replace HO:=h! ((HO.out.more (aB _)).later ah)
  replace HR:Hid (∀ (j r:Nat),rs[j]? = some r -> ∃ row,PRow f j f.blocks.length row/\Box (w6.alloc (.cells (madeCells #[.bool false] nb) 4)) r (gO row)):=h! (fun j r h=>by obtain ⟨row,h1,h2⟩:=HR.out j r h;exact ⟨row,h1,h2.later ah⟩)
  have ch:=h! (Below.size aa.out)
  replace aa:=h! (gA.later aa.out ah)
  have aj:Hid (Below w6.heap.size w6 (w6.alloc (.cells (madeCells #[.bool false] nb) 4))):=h! ah
  have af:Hid (PRow f a 0 (List.replicate nb false)):=h! (by rw [ac.out];exact PRow.start f a)
  clear ah
  generalize w6.alloc _=w7 at *
  go_wp2_with fail
  go_loopw [8] (fun iv wr => ∃ (b:Nat) (s:List Bool),b <= nb/\iv = .int .i64 b/\PRow f a b s/\Box wr w6.heap.size (gO s)/\Own wr W2.heap.size (w6.heap.size :: rs) 124 1 (.slice oa a oc) a (oX nb rs)/\(∀ (j r:Nat),rs[j]? = some r -> ∃ row,PRow f j f.blocks.length row/\Box wr r (gO row))/\gA W2 wr/\Below w6.heap.size w6 wr) (fun iv _=>nb - (intOf iv).toNat)
  case atStart=>exact ⟨0,_,aJ _,rfl,af.out,ae.out,HO.out,HR.out,aa.out,aj.out⟩
  obtain ⟨b,s,hb,rfl,hP,bk,hO,hR,hS,h6⟩:=hrel
  replace af:=h! hP
  replace ae:=h! bk
  replace HO:=h! hO
  replace HR:=h! hR
  replace aa:=h! hS
  replace aj:=h! h6
  clear hP bk hO hR hS h6
  generalize wr=w8 at *
  obtain ⟨l1,c1,f1⟩:=bg.out.later aa.out
  by_cases hltb:b < nb
  ·obtain ⟨xa,ay⟩ : ∃ x,S[a]? = some x:=⟨_,aC (by rw [bx.out];exact hlt)⟩
   obtain ⟨xb,ax⟩ : ∃ x,S[b]? = some x:=⟨_,aC (by rw [bx.out];exact hltb)⟩
   obtain ⟨xt,ba⟩ : ∃ x,T[b]? = some x:=⟨_,aC (by rw [cg.out];exact hltb)⟩
   have d1:=(Below.cell aa.out (p:=⟨sb,so+a,none⟩) aq).trans (bv.out a xa ay)
   have d2:=(Below.cell aa.out (p:=⟨sb,so+b,none⟩) aq).trans (bv.out b xb ax)
   have d3:=(aj.out.cell (p:=⟨tb,to+b,none⟩) cw).trans (cq.out b xt ba)
   have bi:(xa && (xb && !xt))=true ↔ kJ f a b:=by
    have h1:=HS.out.2 a
    have h2:=HS.out.2 b
    have h3:=HT.out.2 b
    rw [ay] at h1
    rw [ax] at h2
    rw [ba] at h3
    unfold kJ
    rw [<-h1, <-h2, <-h3]
    simp
   have cr:=h! bi
   obtain ⟨l2,c2,f2⟩:=ae.out
   obtain ⟨y,hy⟩ : ∃ y,s[b]? = some y:=⟨_,aC (by rw [af.out.1, <-ac.out];exact hltb)⟩
   have hfl:=jA hy
   clear ay ax ba bi hy
   have ce:Hid (∀ x:Bool,(x=true ↔ kJ f a b) -> PRow f a (b+1) (s.set b x)/\Box (w8.setCell ⟨w6.heap.size,b,none⟩ (.bool x)) w6.heap.size (gO (s.set b x))/\Own (w8.setCell ⟨w6.heap.size,b,none⟩ (.bool x)) W2.heap.size (w6.heap.size :: rs) 124 1 (.slice oa a oc) a (oX nb rs) /\
     (∀ (j r:Nat),rs[j]? = some r -> ∃ row,PRow f j f.blocks.length row/\Box (w8.setCell ⟨w6.heap.size,b,none⟩ (.bool x)) r (gO row))/\gA W2 (w8.setCell ⟨w6.heap.size,b,none⟩ (.bool x))/\Below w6.heap.size w6 (w8.setCell ⟨w6.heap.size,b,none⟩ (.bool x))):=h! (fun x hx =>
    ⟨af.out.next (by rw [<-ac.out];exact hltb) hx,by have h9:=ae.out.set b (.bool x);rwa [kS] at h9,HO.out.other _ (by simp),fun j r hj=>by obtain ⟨row,h1,h2⟩:=HR.out j r hj;exact ⟨row,h1,h2.other _ (fun e=>by have:=bp.out r (aG hj);simp only at e;omega)⟩,
     Below.setCell aa.out (p:=⟨w6.heap.size,b,none⟩) ch.out _,aj.out.setCell (p:=⟨w6.heap.size,b,none⟩) (aB _) _⟩)
   cases xa <;> cases xb <;> cases xt
   all_goals
    go_wp2
    go_roundw
    case rel=>exact ⟨b+1,_,hltb,by go_num,ce.out _ cr.out⟩
    simp [intOf];omega
  have bq:b=nb:=by omega
  have hs8:=Below.size aa.out
  have hl6:=ae.out.lt
  have cl:Hid (∀ r ∈ rs,r < w8.heap.size):=h! (fun r hr=>by have:=bp.out r hr;omega)
  go_wp2_with (at_builtin;refine gF rfl _ _ 140 124 rfl aCT rfl rfl (HO.out.alloc _) (Row.of_box (n:=1) (size:=1) (Box.new _ _ _) rfl (by omega)) (by simp [Value.oneCell']) (by unfold maxLen;omega) (by omega) (by simp;omega) (by intro y hy;simp only [bU] at hy;simp only [World.size_alloc];rcases hy with rfl | hy;omega;have:=cl.out y hy;omega) ?_;intro v9 w9 bj ag bm;have cn:=h! bj;have ci:=h! bm;have br:=h! ag;clear bj ag bm)
  have cj:Hid (∀ (j r:Nat),(rs ++ [w6.heap.size])[j]? = some r -> ∃ row,PRow f j f.blocks.length row/\Box w9 r (gO row)):=h! (fun j r hj=>by
   rw [dA] at hj
   split at hj
   ·obtain ⟨row,h1,h2⟩:=HR.out j r hj
    exact ⟨row,h1,br.out _ _ (by simp [aG hj]) (h2.alloc _)⟩
   rename_i hjl
   have cd:j=a:=by
    have:=(aF.1 hj).1
    have:=am.out
    simp at *;omega
   have ct:r=w6.heap.size:=by
    have e9:j - rs.length=0:=by have:=am.out;omega
    rw [e9] at hj
    simpa using hj.symm
   subst ct
   refine ⟨s, ?_,br.out _ _ (by simp) (ae.out.alloc _)⟩
   have h9:=af.out
   rw [bq,ac.out, <-cd] at h9
   exact h9)
  have ca:Hid (Own w9 W2.heap.size (rs ++ [w6.heap.size]) 124 1 v9 (a+1) (oX nb (rs ++ [w6.heap.size]))):=h! (by
   have h9:oX nb (rs ++ [w6.heap.size])=oX nb rs ++ [.slice (some ⟨w6.heap.size,0,none⟩) nb nb]:=by simp [oX]
   rw [h9]
   exact cn.out.less (by intro y hy;simp at hy ⊢;rcases hy with hy | hy <;> simp [hy]))
  have co:Hid (gA W2 w9):=h! (Below.trans (gA.later aa.out ((Below.refl _ _).alloc (aB _) _)) ci.out)
  clear bq
  go_roundw
  case rel=>exact ⟨a+1,rs ++ [w6.heap.size],hlt,by go_num,by rw [aI,am.out];rfl,ca.out,cj.out,co.out⟩
  simp [intOf];omega
 have an:a=nb:=by omega
 have ao:Hid (uE f w5 (.slice oa a oc)):=h! ⟨rs,by rw [am.out,an,ac.out],by
  have h9:=HO.out.reads (by omega)
  rw [an,ac.out] at h9
  rw [an,ac.out];exact h9,HR.out⟩
 have cf:=h! (ai.out.trans (Below.mono aa.out ai.out.size))
 clear an
 go_wp2
 go_ret
 exact ⟨_,rfl,ao.out,cf.out⟩
def gG (xs:List Int) (p:PhiD):Bool:=decide (p.src.length=xs.length) && xs.all fun t=>p.src.contains t
set_option maxRecDepth 100000 in
theorem aED {w:World} {pv A1 A2 A3 A4 A5 u:Value} {ps:List PhiD} {xs:List Int} (hp:eX PhiR 4 w pv ps) (hu:Ints w u xs) :
  Calls Tryz.prog 76 #[.agg #[pv,A1,A2,A3,A4,A5],u] w fun e w'=>e = .returned (.bool (ps.all (gG xs)))/\Below w.heap.size w w':=by
 obtain ⟨a1,c1,b1,o1,rfl,bo,hm1,bh,am,hx⟩:=fQ hp
 have ae:=hu.le
 obtain ⟨ua,uc,ub,uo,rfl,bs,hum,ak,aj⟩:=hu.parts
 obtain ⟨pl,ax⟩ : ∃ n,n=ps.length:=⟨_,rfl⟩
 obtain ⟨ul,ar⟩ : ∃ n,n=xs.length:=⟨_,rfl⟩
 rw [<-ax] at bo bh am ⊢
 rw [<-ar] at bs ak aj ae ⊢
 have az:=h! ax
 have ai:=h! ar
 have bn:=h! am
 have HX:=h! hx
 have bq:=h! ak
 have bj:=h! aj
 clear hp hu ax ar am hx ak aj
 go_enter Tryz.func76,Tryz.ntmps76
 go_upto_region 1 with (fail)
 have bc:=(Below.refl w.heap.size w).alloc (aB _) (.cells #[.slice a1 pl c1,A1,A2,A3,A4,A5] 63)
 have HW:=h! bc
 clear bc
 have B1:=h! (Box.new w #[.slice a1 pl c1,A1,A2,A3,A4,A5] 63)
 generalize w.alloc (.cells #[.slice a1 pl c1,A1,A2,A3,A4,A5] 63)=wv at *
 obtain ⟨ab,ac,aa⟩:=B1.out
 go_wp2_with fail
 go_loopw [5] (fun i wr => ∃ j:Nat,j <= pl/\i = .int .i64 j/\(ps.take j).all (gG xs)=true/\Below w.heap.size w wr/\Box wr w.heap.size #[.slice a1 pl c1,A1,A2,A3,A4,A5]) (fun i _=>pl - (intOf i).toNat)
 case atStart=>exact ⟨0,aJ _,rfl,rfl,HW.out,B1.out⟩
 case round =>
  obtain ⟨j,hj,rfl,hs,hW,h1⟩:=hrel
  clear ab ac aa
  have HS:=h! hs
  replace HW:=h! hW
  replace B1:=h! h1
  clear hs hW h1
  generalize wr=w3 at *
  obtain ⟨ab,ac,aa⟩:=B1.out
  by_cases hlt:j < pl
  ·obtain ⟨rfl,bg⟩:=bn.out (by omega)
   obtain ⟨p,ag⟩ : ∃ p,ps[j]? = some p:=⟨_,aC (by have:=az.out;omega)⟩
   obtain ⟨af,av,cf,cv,hP⟩:=HX.out j p ag
   obtain ⟨m0,m1,m2,m3,r1,r2,r3,r4⟩:=hP.below HW.out bg
   have be:=h! (aG ag)
   have bl:=h! (eT ps j p ag)
   have ba:=h! hP.c2
   have ad:=h! hP.src
   obtain ⟨sl,ah⟩ : ∃ sl,sl=p.src.length:=⟨_,rfl⟩
   rw [<-ah] at ba ad m2
   have ay:=h! ah
   have hsl16:sl <= 17592186044416:=by rw [ah];exact hP.src.le
   clear ag hP r1 r2 r3 r4 m0 m1 m3 ah
   by_cases hlen:sl=ul
   ·have hq:((sl:Int) != (ul:Int))=false:=by simp [hlen]
    have an:Hid (p.src.length=xs.length):=h! (by rw [<-ay.out, <-ai.out];exact hlen)
    clear hlen
    go_wp2_with fail
    clear m2
    go_loopw [6] (fun i wr => ∃ t:Nat,t <= ul/\i = .int .i64 t/\((xs.take t).all fun t=>p.src.contains t)=true/\Below w.heap.size w wr/\Box wr w.heap.size #[.slice (some ⟨b1,o1,none⟩) pl c1,A1,A2,A3,A4,A5]) (fun i _=>ul - (intOf i).toNat)
    case atStart=>exact ⟨0,aJ _,rfl,rfl,HW.out,B1.out⟩
    obtain ⟨t,ht,rfl,hs,hW,h1⟩:=hrel
    clear ab ac aa
    have bb:=h! hs
    replace HW:=h! hW
    replace B1:=h! h1
    clear hs hW h1
    generalize wr=w5 at *
    obtain ⟨ab,ac,aa⟩:=B1.out
    by_cases hltt:t < ul
    ·obtain ⟨rfl,bi⟩:=bq.out (by omega)
     obtain ⟨y,hy⟩ : ∃ y,y=xs.getD t 0:=⟨_,rfl⟩
     have CU:=h! ((HW.out.cell (p:=⟨ub,uo+t,none⟩) bi).trans (bj.out t hltt))
     rw [<-hy] at CU
     have aw:xs[t]? = some y:=by rw [hy];exact fK xs t (by have:=ai.out;omega)
     have aq:=h! (eT xs t y aw)
     have bk:=h! (aG aw)
     have bf:=World.block_lt_of_cell? w5 _ CU.out
     have CS:=h! ((HW.out.cell (p:=⟨b1,o1+j * 4+2,none⟩) bg).trans ba.out)
     have bd:=World.block_lt_of_cell? w5 _ CS.out
     obtain ⟨c,hc⟩ : ∃ c,c=p.src.contains y:=⟨_,rfl⟩
     have HC:=h! hc
     have bp:Hid (∀ wg,Below w5.heap.size w5 wg -> Calls Tryz.prog 32 #[.slice af sl cf,.int .i64 y] wg fun e w'=>e = .returned (.bool c)/\Below wg.heap.size wg w'):=h! (fun wg hbg=>by
      rw [hc]
      exact (aDO (x:=y) (ad.out.below (HW.out.trans (hbg.mono HW.out.size)))).mono (fun e w2 ⟨h1,h2⟩=>⟨h1,h2 ▸ Below.refl _ _⟩))
     clear hy aw hc
     go_upto_region 9 with (fail)
     refine wp_region_grow 12 (fun kz=>match kz with | 10=>.const (.bool c) | _=>.plain) (by kernel_rfl) (by kernel_rfl) ?_ (fun ν => ?_)
     ·(intro k;(try dsimp only);split <;> first | exact True.intro | (intro u w1 w2 hu hb;exact hu.below hb))
     simp only [aO,aS,aP,aU]
     iterate 10 (refine Grow.val (v := ?_) rfl rfl (fun wg hbg hdg => ?_) ?_;rotate_left;(focus ((obtain ⟨lg0,cg0,fg0⟩:=B1.out.later hbg);(have hcl:=(hbg.cell (p:=⟨ub,uo+t,none⟩) bf).trans CU.out;have br:=(hbg.cell (p:=⟨b1,o1+j * 4+2,none⟩) bd).trans CS.out);clear hbg hdg;first | (go_simp;done) | (go_simp;with_reducible rfl)));simp only [Act.put,aA,aD,aE])
     refine Grow.call (f := ?_) (args := ?_) rfl (fun wg => ?_) (fun wg hbg hdg => ?_) ?_
     rotate_left 2
     focus (first | (go_simp;done) | (go_simp;refine And.intro ?_ ?_ <;> with_reducible rfl) | (go_simp;with_reducible rfl))
     focus exact Calls.mono (bp.out wg hbg) (fun e w2 ⟨he,hb2⟩=>⟨_,he,rfl,hb2⟩)
     simp only [Act.put,Known.val,aA,aD,aE]
     refine Grow.val (v := ?_) rfl rfl (fun wg hbg hdg => ?_) ?_
     rotate_left
     focus ((obtain ⟨lg0,cg0,fg0⟩:=B1.out.later hbg);(have hcl:=(hbg.cell (p:=⟨ub,uo+t,none⟩) bf).trans CU.out;have br:=(hbg.cell (p:=⟨b1,o1+j * 4+2,none⟩) bd).trans CS.out);clear hbg hdg;first | (go_simp;done) | (go_simp;with_reducible rfl))
     simp only [Act.put,aA,aD,aE]
     intro wg hb hf bm
     clear bm
     clear ab ac aa
     replace B1:=h! (B1.out.later hb)
     replace HW:=h! (HW.out.trans (hb.mono HW.out.size))
     clear hb
     obtain ⟨ab,ac,aa⟩:=B1.out
     clear hf
     cases c
     ·have al:Hid (ps.all (gG xs)=false):=h! (by
       rw [cI]
       refine ⟨p,be.out, ?_⟩
       unfold gG
       rw [aL,not_and]
       intro _ h
       rw [bB] at h
       have:=h y bk.out
       rw [<-HC.out] at this
       cases this)
      go_wp2
      go_ret
      exact ⟨gX al.out.symm,HW.out⟩
     have ao:Hid (((xs.take (t+1)).all fun t=>p.src.contains t)=true):=h! (by rw [aq.out,List.all_append,bb.out];simpa using HC.out.symm)
     go_wp2
     go_roundw
     case rel=>exact ⟨t+1,hltt,by go_num,ao.out,HW.out,B1.out⟩
     simp [intOf];omega
    have ao:Hid ((ps.take (j+1)).all (gG xs)=true):=h! (by
     rw [bl.out,dG,HS.out]
     have h9:=bb.out
     rw [aH (by have:=ai.out;omega)] at h9
     simp only [List.all_cons,List.all_nil,Bool.and_true,bN]
     unfold gG
     rw [h9,decide_eq_true an.out];rfl)
    go_wp2
    go_roundw
    case rel=>exact ⟨j+1,hlt,by go_num,ao.out,HW.out,B1.out⟩
    simp [intOf];omega
   have hq:((sl:Int) != (ul:Int))=true:=by simp;omega
   have al:Hid (ps.all (gG xs)=false):=h! (by
    rw [cI]
    refine ⟨p,be.out, ?_⟩
    unfold gG
    rw [decide_eq_false (by rw [<-ay.out, <-ai.out];exact hlen)]
    simp)
   clear hlen
   go_wp2
   go_ret
   exact ⟨gX al.out.symm,HW.out⟩
  have ap:Hid (ps.all (gG xs)=true):=h! (by have h9:=HS.out;rw [aH (by have:=az.out;omega)] at h9;exact h9)
  go_wp2
  go_ret
  exact ⟨gX ap.out.symm,HW.out⟩
theorem aAO {f:FuncD} (hn:1 <= f.blocks.length) {e:Int × Int × Int} (he:e ∈ entF f):0 <= e.2.1/\e.2.1 < (f.blocks.length:Int):=by
 unfold entF at he
 rcases aM.1 he with he | he
 ·unfold parN at he
  rw [aX] at he
  obtain ⟨j,_,rfl⟩:=he
  exact ⟨by show (0:Int) <= 0;omega,by show (0:Int) < _;omega⟩
 unfold blkN at he
 rw [bW] at he
 obtain ⟨⟨x,c⟩,hx,he⟩:=he
 rw [cX,bI] at hx
 have hc:c < f.blocks.length:=(aF.1 hx).1
 unfold entB at he
 have hd:e.2.1=(c:Int):=by
  rcases aM.1 he with he | he
  ·unfold phiN at he
   rw [aX] at he
   obtain ⟨p,_,rfl⟩:=he
   rfl
  unfold codN at he
  rw [List.mem_filterMap] at he
  obtain ⟨y,_,hy⟩:=he
  split at hy
  ·cases hy;rfl
  cases hy
 rw [hd]
 omega
theorem nA {f:FuncD} (hc:eZ f=0) {u:UseD} (hu:u ∈ uxF f):∃ d k,((entF f).find? fun e=>e.1 == u.id)=some (u.id,d,k)/\0 <= d/\d < (f.blocks.length:Int):=by
 obtain ⟨h1,h2⟩:=fC hc
 have ac:=jW h1
 have hp:u.pair ∈ lD f:=by rw [<-vC ac];exact aX.2 ⟨u,hu,rfl⟩
 have h3:kI (fJ f) (lD f)=0:=by
  unfold eZ at hc
  rw [if_pos (by rw [h1,h2];rfl)] at hc
  exact hc
 have h4:(lD f).any (fun u => !(tyOf (fJ f) u.1).isSome)=false:=by
  unfold kI at h3
  cases h:(lD f).any (fun u => !(tyOf (fJ f) u.1).isSome) with
  | false=>rfl
  | true=>rw [h,if_pos rfl] at h3;omega
 rw [List.any_eq_false] at h4
 have h5:=h4 u.pair hp
 have h6:u.id ∈ (entF f).map (·.1):=by
  rw [rB hc]
  refine Classical.byContradiction fun h => ?_
  have h7:=gK.2 h
  have h8:u.pair.1=u.id:=rfl
  rw [h8,h7] at h5
  exact h5 rfl
 obtain ⟨e,he,aa⟩:=aX.1 h6
 cases hf:((entF f).find? fun e=>e.1 == u.id) with
 | none =>
  rw [List.find?_eq_none] at hf
  exact absurd (by simp [aa]) (hf e he)
 | some e2 =>
  have h9:=List.find?_some hf
  have ab:=eL hf
  simp only [beq_iff_eq] at h9
  obtain ⟨r1,r2⟩:=aAO (iE h1).1 ab
  obtain ⟨i,d,k⟩:=e2
  simp only at h9
  subst h9
  exact ⟨d,k,rfl,r1,r2⟩
theorem sS {f:FuncD} (h:gW f=true) {u:UseD} (hu:u ∈ uxF f):0 <= u.blk/\u.blk < (f.blocks.length:Int)/\(u.pos < 0 -> 0 <= u.src/\u.src < (f.blocks.length:Int)):=by
 unfold uxF at hu
 rw [bW] at hu
 obtain ⟨⟨x,c⟩,hx,hu⟩:=hu
 have ad:=hx
 rw [bI] at hx
 have hc:c < f.blocks.length:=(aF.1 hx).1
 unfold gW at h
 simp only [aL,bB] at h
 have aa:=h.2 (x,c) ad
 unfold gI at aa
 simp only [aL,bB] at aa
 unfold uxB at hu
 rw [bQ] at hu
 rcases aM.1 hu with hu | hu
 ·rw [bW] at hu
  obtain ⟨p,hp,hu⟩:=hu
  have ab:=aa.1.1.2 p hp
  unfold iS at ab
  simp only [aL,bB] at ab
  unfold uxP at hu
  rw [aX] at hu
  obtain ⟨vs,ac,rfl⟩:=hu
  have hs:=List.of_mem_zip ac
  have hn:=ab.1.2 vs.2 hs.2
  unfold numB at hn
  simp at hn
  exact ⟨by show (0:Int) <= (c:Int);omega,by show (c:Int) < _;omega,fun _=>hn⟩
 rcases aM.1 hu with hu | hu
 ·rw [bW] at hu
  obtain ⟨yk,hy,hu⟩:=hu
  unfold uxI at hu
  rw [aX] at hu
  obtain ⟨a,ha,rfl⟩:=hu
  exact ⟨by show (0:Int) <= (c:Int);omega,by show (c:Int) < _;omega,fun h=>by exfalso;have h:((yk.2:Nat):Int) < 0:=h;omega⟩
 unfold uxT at hu
 split at hu
 ·simp at hu
  subst hu
  exact ⟨by show (0:Int) <= (c:Int);omega,by show (c:Int) < _;omega,fun h=>by exfalso;have h:((x.code.length:Nat):Int) < 0:=h;omega⟩
 split at hu
 ·simp at hu
  subst hu
  exact ⟨by show (0:Int) <= (c:Int);omega,by show (c:Int) < _;omega,fun h=>by exfalso;have h:((x.code.length:Nat):Int) < 0:=h;omega⟩
 simp at hu
def iA (f:FuncD) (u:UseD):Prop := ∃ d k,((entF f).find? fun e=>e.1 == u.id)=some (u.id,d,k) /\
 ((u.pos < 0/\kJ f d.toNat u.src.toNat) \/ (¬ u.pos < 0/\kT f d k u.blk u.pos))
def gY (f : FuncD) (b e : Int) : Prop :=
  (∃ c : Nat, c < f.blocks.length ∧ ¬ Way (toB f) (-1) c ∧ (∀ d, d < c → Way (toB f) (-1) d) ∧ b = c ∧ e = 4) ∨
  ((∀ d, d < f.blocks.length → Way (toB f) (-1) d) ∧
    ((∃ (c : Nat) (x : BlockD), f.blocks[c]? = some x ∧ x.phis.all (gG (natI (gJ f f.blocks.length 0 c))) = false ∧ (∀ (d : Nat) (y : BlockD), d < c → f.blocks[d]? = some y → y.phis.all (gG (natI (gJ f f.blocks.length 0 d))) = true) ∧ b = c ∧ e = 5) ∨
     ((∀ (d : Nat) (y : BlockD), f.blocks[d]? = some y → y.phis.all (gG (natI (gJ f f.blocks.length 0 d))) = true) ∧
      ((∃ (i : Nat) (u : UseD), (uxF f)[i]? = some u ∧ ¬ iA f u ∧ (∀ v ∈ (uxF f).take i, iA f v) ∧ b = u.blk ∧ e = 6) ∨
       ((∀ v ∈ uxF f, iA f v) ∧ b = 0 ∧ e = 0)))))
end Go.Proofs.YtagabiidbbhhmaaGreat
