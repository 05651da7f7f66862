/- Part 49. -/
import Derived.Test.YtagabiidbbhhmaaGreatER34
import Derived.Test.YtagabiidbbhhmaaGreatER48
namespace Go.Proofs.YtagabiidbbhhmaaGreat
set_option linter.all false
open Go.RowKit
def jT (x:BlockD):List Int:=x.phis.map (·.id) ++ (x.code.filter fun y=>decide (0 <= y.id)).map (·.id)
def jO (f:FuncD) (b:Nat):BlockD:=f.blocks.getD b default
def idsO (f:FuncD) (O:List Nat):List Int:=O.flatMap fun b=>jT (jO f b)
def fP (np:Nat) (ids:List Int):List (Int × Int):=ids.zipIdx.map fun p=>(p.1,((np+p.2:Nat):Int))
def parJ (np:Nat):List (Int × Int):=(List.range np).map fun i:Nat=>((i:Int),(i:Int))
def fN (np:Nat) (ids:List Int):List (Int × Int):=parJ np ++ fP np ids
def renV (np:Nat) (ids:List Int) (v:Int):Int:=(tyOf (fN np ids) v).getD 0
def renW (np:Nat) (ids:List Int) (v:Int):Int:=(tyOf (fP np ids) v).getD v
def plO (O:List Nat) (q:Int):Int:=((O.idxOf q.toNat:Nat):Int)
def renP (g:Int -> Int) (O:List Nat) (p:PhiD):PhiD :=
 ⟨g p.id,p.typ,jH (p.src.map (plO O)),(jH (p.src.map (plO O))).map fun q=>(tyOf ((p.src.map (plO O)).zip (p.vals.map g)) q).getD 0⟩
def renX (g:Int -> Int) (x:InstrD):InstrD:=⟨x.op,if 0 <= x.id then g x.id else x.id,x.args.map g,x.n⟩
def renB (g:Int -> Int) (O:List Nat) (x:BlockD):BlockD:=⟨x.phis.map (renP g O),x.code.map (renX g), { mapT g x.term with to:=x.term.to.map (plO O) }⟩
def renF (f:FuncD) (O:List Nat):FuncD := { f with blocks:=O.map fun b=>renB (renV f.params.length (idsO f O)) O (jO f b) }
def iD (O:List Nat) (p:PhiD):PhiD :=
 ⟨p.id,p.typ,((List.range O.length).filter fun b=>p.src.contains ((O.getD b 0:Nat):Int)).map fun b:Nat=>(b:Int),((List.range O.length).filter fun b=>p.src.contains ((O.getD b 0:Nat):Int)).map fun b:Nat=>p.vals.getD (p.src.idxOf ((O.getD b 0:Nat):Int)) 0⟩
def refP (g:Int -> Int) (O:List Nat) (p:PhiD):PhiD := { iD O (mapP g p) with id:=g p.id }
def refB (g:Int -> Int) (O:List Nat) (x:BlockD):BlockD:=⟨x.phis.map (refP g O),x.code.map (renX g), { mapT g x.term with to:=x.term.to.map (plO O) }⟩
def rL (f:FuncD) (O:List Nat):FuncD := { f with blocks:=O.map fun b=>refB (renW f.params.length (idsO f O)) O (jO f b) }
theorem kU (A B:List (Int × Int)) (v:Int):tyOf (A ++ B) v=(tyOf A v).or (tyOf B v):=by
 unfold tyOf
 rw [List.find?_append]
 cases A.find? (fun p=>p.1 == v) <;> simp
theorem kV (np:Nat) (ids:List Int) (id:Int):fP np (ids ++ [id])=fP np ids ++ [(id,((np+ids.length:Nat):Int))]:=by
 unfold fP
 rw [List.zipIdx_append,aZ]
 simp
theorem kW (np:Nat) (ids:List Int):(fP np ids).map (·.1)=ids:=by
 unfold fP
 rw [cK]
 apply bJ
 intro i
 rw [aQ,cT]
 cases ids[i]? <;> simp
theorem nX (np:Nat) (ids:List Int):(fP np ids).length=ids.length:=by simp [fP]
theorem mR {np:Nat} {v:Int}:v ∈ (parJ np).map (·.1) ↔ 0 <= v/\v < np:=by
 unfold parJ
 rw [cK,aX]
 constructor
 ·rintro ⟨i,hi,rfl⟩
  rw [cS] at hi
  simp only [Function.comp]
  omega
 rintro ⟨h1,h2⟩
 exact ⟨v.toNat,cS.2 (by omega),by simp only [Function.comp];omega⟩
theorem aB5 {np:Nat} {v:Int} (h:0 <= v/\v < np):tyOf (parJ np) v=some v:=by
 cases hv:tyOf (parJ np) v with
 | none=>exact absurd (mR.2 h) (gK.1 hv)
 | some t =>
  have h1:=mE hv
  unfold parJ at h1
  rw [aX] at h1
  obtain ⟨i,_,h2⟩:=h1
  have h3:=congrArg Prod.fst h2
  have h4:=congrArg Prod.snd h2
  simp only at h3 h4
  rw [<-h3, <-h4]
theorem rM (np:Nat) (ids:List Int):(fN np ids).length=np+ids.length:=by
 unfold fN
 rw [aI,nX]
 simp [parJ]
theorem wB (np:Nat) (ids:List Int) (id:Int):fN np (ids ++ [id])=fN np ids ++ [(id,(((fN np ids).length:Nat):Int))]:=by
 rw [rM]
 unfold fN
 rw [kV,bQ]
theorem wC {np:Nat} {ids:List Int} {v:Int} (h1:¬ (0 <= v/\v < np)) (h2:v ∉ ids):tyOf (fN np ids) v=none:=by
 unfold fN
 rw [kU,gK.2 (fun h=>h1 (mR.1 h)),gK.2 (by rw [kW];exact h2)];rfl
structure Named (np:Nat) (ids:List Int):Prop where
 nodup:ids.Nodup
 out:∀ v ∈ ids,(np:Int) <= v
theorem qL {np:Nat} {ids:List Int} (hn:ids.Nodup) {k:Nat} {v:Int} (h:ids[k]? = some v):tyOf (fP np ids) v=some ((np+k:Nat):Int):=by
 cases hv:tyOf (fP np ids) v with
 | none=>exact absurd (by rw [kW];exact aG h) (gK.1 hv)
 | some t =>
  have h1:=mE hv
  unfold fP at h1
  rw [aX] at h1
  obtain ⟨⟨u,j⟩,h2,h3⟩:=h1
  rw [bI] at h2
  simp only at h2 h3
  have h4:=congrArg Prod.fst h3
  have h5:=congrArg Prod.snd h3
  simp only at h4 h5
  subst h4
  obtain ⟨h6,h7⟩:=aF.1 h
  obtain ⟨h8,h9⟩:=aF.1 h2
  have:j=k:=(List.getElem_inj hn).1 (by rw [h9,h7])
  rw [<-h5,this]
theorem tM {np:Nat} {ids:List Int} (h:Named np ids) {k:Nat} {v:Int} (hk:ids[k]? = some v):renV np ids v=((np+k:Nat):Int)/\renW np ids v=((np+k:Nat):Int):=by
 have h1:=qL (np:=np) h.nodup hk
 have h2:=h.out v (aG hk)
 constructor
 ·unfold renV fN
  rw [kU,gK.2 (fun h=>by have:=mR.1 h;omega),h1];rfl
 unfold renW
 rw [h1];rfl
theorem uW {np:Nat} {ids:List Int} (h:Named np ids) {v:Int} (hv:0 <= v/\v < np):renV np ids v=v/\renW np ids v=v:=by
 constructor
 ·unfold renV fN
  rw [kU,aB5 hv];rfl
 unfold renW
 rw [gK.2 (by rw [kW];intro hm;have:=h.out v hm;omega)];rfl
theorem rN {np:Nat} {ids:List Int} (h:Named np ids) {v:Int} (hv:(0 <= v/\v < np) \/ v ∈ ids):renV np ids v=renW np ids v:=by
 rcases hv with hv | hv
 ·rw [(uW h hv).1,(uW h hv).2]
 obtain ⟨k,hk⟩:=eK hv
 rw [(tM h hk).1,(tM h hk).2]
theorem pU {np:Nat} {pre post:List Int} {id:Int} (h:Named np (pre ++ id :: post)):tyOf (fN np pre) id=none/\fN np (pre ++ [id])=fN np pre ++ [(id,(((fN np pre).length:Nat):Int))]/\renV np (pre ++ id :: post) id=(((fN np pre).length:Nat):Int):=by
 have h1:=h.out id (by simp)
 have h2:=h.nodup
 rw [cC] at h2
 refine ⟨wC (by omega) (fun hm=>h2.2.2 id hm id (by simp) rfl),wB np pre id, ?_⟩
 rw [rM]
 exact (tM h (k:=pre.length) (by rw [cE (aB _),dP];rfl)).1
theorem tN {O:List Nat} {g:Int -> Int} {p:PhiD} (hO:O.Nodup) (hn:p.src.Nodup) (hm:∀ q ∈ p.src,0 <= q/\q.toNat ∈ O) (hl:p.src.length=p.vals.length) :
  jH (p.src.map (plO O))=(iD O (mapP g p)).src/\((jH (p.src.map (plO O))).map fun q=>(tyOf ((p.src.map (plO O)).zip (p.vals.map g)) q).getD 0)=(iD O (mapP g p)).vals:=by
 have ab:∀ q ∈ p.src, ∀ r ∈ p.src,plO O q=plO O r -> q=r:=fun q hq r hr e=>by
  have h1:=bM (hm q hq).2
  have h2:=bM (hm r hr).2
  unfold plO at e
  have h3:O.idxOf q.toNat=O.idxOf r.toNat:=by omega
  have h4:O[O.idxOf q.toNat]=O[O.idxOf r.toNat]:=by simp only [h3]
  rw [dI,dI] at h4
  have:=(hm q hq).1;have:=(hm r hr).1
  omega
 have ac:(p.src.map (plO O)).Nodup:=by
  rw [cW,List.pairwise_map]
  rw [cW] at hn
  exact (List.Pairwise.and_mem.1 hn).imp fun ⟨ha,hb,hne⟩ e=>hne (ab _ ha _ hb e)
 have aa:jH (p.src.map (plO O))=(iD O (mapP g p)).src:=by
  refine qP (pY ac) ?_ fun x => ?_
  ·unfold Rise iD
   simp only
   rw [List.pairwise_map]
   exact (List.Pairwise.filter _ List.pairwise_lt_range).imp fun h=>by omega
  rw [(gS _).mem_iff,aX]
  unfold iD mapP
  simp only [aX,List.mem_filter,cS,List.contains_iff_mem]
  constructor
  ·rintro ⟨q,hq,rfl⟩
   have h1:=bM (hm q hq).2
   refine ⟨O.idxOf q.toNat,⟨h1, ?_⟩,rfl⟩
   rw [aK,aC h1,dE,dI]
   have:=(hm q hq).1
   rw [Int.toNat_of_nonneg this];exact hq
  rintro ⟨b,⟨hb,ae⟩,rfl⟩
  refine ⟨_,ae, ?_⟩
  rw [aK,aC hb,dE]
  unfold plO
  rw [dO,List.Nodup.idxOf_getElem hO]
 refine ⟨aa, ?_⟩
 have hv:(iD O (mapP g p)).vals=(iD O (mapP g p)).src.map fun q=>(p.vals.map g).getD (p.src.idxOf ((O.getD q.toNat 0:Nat):Int)) 0:=by
  unfold iD mapP
  simp only [cK]
  apply bS
  intro b _
  simp
 rw [hv,aa]
 apply bS
 intro x hx
 rw [<-aa,(gS _).mem_iff,aX] at hx
 obtain ⟨q,hq,rfl⟩:=hx
 have h1:=bM (hm q hq).2
 have h2:((O.getD (plO O q).toNat 0:Nat):Int)=q:=by
  unfold plO
  rw [dO,aK,aC h1,dE,dI]
  exact Int.toNat_of_nonneg (hm q hq).1
 rw [h2]
 obtain ⟨i,hi⟩ : ∃ i,i=p.src.idxOf q:=⟨_,rfl⟩
 rw [<-hi]
 have af:i < p.src.length:=by rw [hi];exact bM hq
 have ag:p.src[i]? = some q:=by rw [aC af];subst hi;rw [dI]
 have ah:(p.vals.map g)[i]? = some ((p.vals.map g).getD i 0):=by
  rw [aK,aC (by rw [aW];omega)];rfl
 have hz:((p.src.map (plO O)).zip (p.vals.map g))[i]? = some (plO O q,(p.vals.map g).getD i 0):=by
  rw [cO]
  exact ⟨by rw [aQ,ag];rfl,ah⟩
 have ai:(((p.src.map (plO O)).zip (p.vals.map g)).map Prod.fst).Nodup:=by
  rw [List.map_fst_zip (by rw [aW,aW];omega)];exact ac
 cases ht:tyOf ((p.src.map (plO O)).zip (p.vals.map g)) (plO O q) with
 | none =>
  exfalso
  exact gK.1 ht (aX.2 ⟨_,aG hz,rfl⟩)
 | some t =>
  have h3:=mE ht
  obtain ⟨j,hj⟩:=eK h3
  have h4:(((p.src.map (plO O)).zip (p.vals.map g)).map Prod.fst)[j]? = some (plO O q):=by rw [aQ,hj];rfl
  have h5:(((p.src.map (plO O)).zip (p.vals.map g)).map Prod.fst)[i]? = some (plO O q):=by rw [aQ,hz];rfl
  obtain ⟨h6,h7⟩:=aF.1 h4
  obtain ⟨h8,h9⟩:=aF.1 h5
  have ad:j=i:=(List.getElem_inj ai).1 (by rw [h7,h9])
  rw [ad,hz] at hj
  injection hj with hj
  have:=congrArg Prod.snd hj
  simp only at this
  rw [<-this];rfl
theorem aDU {f:FuncD} {d:Nat} {x:BlockD} (hf:gW f=true) (hx:f.blocks[d]? = some x) {p:PhiD} (hp:p ∈ x.phis):∀ q ∈ p.src,0 <= q/\q < f.blocks.length:=fun q hq=>by
 unfold gW at hf
 simp only [aL,bB] at hf
 have h8:=(mV.1 (hf.2 (x,d) (by rw [bI];exact hx))).2.1 p hp
 unfold iS at h8
 simp only [aL,bB] at h8
 have h9:=h8.1.2 q hq
 unfold numB at h9
 simp at h9
 omega
def OffF (D:Foot) (w0 W:World):Prop:=Off D w0 W
theorem OffF.later {D:Foot} {w0 W W' : World} (h:OffF D w0 W) (hb:Below W.heap.size W W'):OffF D w0 W':=Off.trans h (Off.of_below hb D)
theorem OffF.alloc {D:Foot} {w0 W:World} (h:OffF D w0 W) (o:Obj):OffF D w0 (W.alloc o):=Off.trans h (Off.alloc D W o)
theorem OffF.other {D:Foot} {w0 W:World} (h:OffF D w0 W) {p:Addr} (v:Value) (hp:D p.block \/ w0.heap.size <= p.block):OffF D w0 (W.setCell p v) :=
 Off.grow h (Off.set W p v) (fun q hq=>by cases hq;exact hp)
private theorem gA.alloc {w0 W:World} (h:gA w0 W) (o:Obj):gA w0 (W.alloc o):=h.later ((Below.refl _ _).alloc (aB _) o)
theorem jS {f:FuncD} {b:Nat} {x:BlockD} (h:f.blocks[b]? = some x):jO f b=x:=getD_some h
theorem aB6 {f:FuncD} (hc:eZ f=0) {x:BlockD} (hx:x ∈ f.blocks):jT x=(iX x).map (·.1):=by
 unfold jT iX
 rw [aZ,cK,cK]
 have h1:x.code.filter (fun y=>decide (0 <= y.id))=x.code.filter (fun y=>(shp0 y.op).result != 0):=by
  apply List.filter_congr
  intro y hy
  have:=vO hc x hx y hy
  rw [bV]
  simp only [decide_eq_true_eq,bne_iff_ne]
  exact this
 rw [h1]
 rfl
theorem rO {f:FuncD} (hc:eZ f=0):f.blocks.flatMap jT=(oC f).map (·.1):=by
 unfold oC
 rw [List.map_flatMap]
 have:∀ l:List BlockD,(∀ x ∈ l,x ∈ f.blocks) -> l.flatMap jT=l.flatMap fun x=>(iX x).map (·.1):=fun l=>by
  induction l with
  | nil=>intro _;rfl
  | cons x l ih=>intro h;rw [cD,cD,aB6 hc (h x (by simp)),ih fun y hy=>h y (bK _ hy)]
 exact this _ fun x hx=>hx
theorem wD {f:FuncD} {O:List Nat} (hO:fO f O) (hall:∀ d,d < f.blocks.length -> Way (toB f) (-1) d):O.Perm (List.range f.blocks.length):=by
 obtain ⟨h1,h2,h3, -, -⟩:=hO.facts
 rw [List.perm_ext_iff_of_nodup h1 List.nodup_range]
 intro a
 rw [cS]
 exact ⟨h3 a,fun h=>(h2 a).2 (hall a h)⟩
theorem rP (f:FuncD):(List.range f.blocks.length).flatMap (fun b=>jT (jO f b))=f.blocks.flatMap jT:=by
 have h:(List.range f.blocks.length).map (jO f)=f.blocks:=by
  apply bJ
  intro i
  rw [aQ]
  by_cases hi:i < f.blocks.length
  ·rw [dY hi,aC hi,cR,jS (aC hi)]
  rw [aT (by rw [List.length_range];omega),aT (by omega)];rfl
 have h2:f.blocks.flatMap jT=((List.range f.blocks.length).map (jO f)).flatMap jT:=by rw [h]
 rw [h2,List.flatMap_map]
theorem oE {f:FuncD} {O:List Nat} (hc:eZ f=0) (hO:fO f O) (hall:∀ d,d < f.blocks.length -> Way (toB f) (-1) d):(idsO f O).Perm ((oC f).map (·.1)):=by
 rw [<-rO hc, <-rP]
 exact (wD hO hall).flatMap_right _
theorem rQ {f:FuncD} {O:List Nat} (hc:eZ f=0) (hO:fO f O) (hall:∀ d,d < f.blocks.length -> Way (toB f) (-1) d):Named f.params.length (idsO f O):=by
 have h2:=(fC hc).2
 have hp:=oE hc hO hall
 refine ⟨?_,fun v hv => ?_⟩
 ·rw [hp.nodup_iff]
  have h3:=nT h2
  rw [aZ,cC] at h3
  exact h3.2.1
 rw [hp.mem_iff,aX] at hv
 obtain ⟨p,aa,rfl⟩:=hv
 unfold idsF idsB at h2
 rw [aL,bB] at h2
 have h4:=h2.2 p aa
 simp at h4
 omega
theorem aB7 (ps:List Int) {v:Int} (h:v ∈ (parT ps).map (·.1)):0 <= v/\v < ps.length:=by
 unfold parT at h
 rw [cK,aX] at h
 obtain ⟨⟨t,i⟩,hi,rfl⟩:=h
 rw [bI] at hi
 have:=(aF.1 hi).1
 simp only [Function.comp]
 simp only at this
 omega
theorem zI {f:FuncD} {O:List Nat} (hc:eZ f=0) (hO:fO f O) (hall:∀ d,d < f.blocks.length -> Way (toB f) (-1) d) {u:Int × Int} (hu:u ∈ lD f):(0 <= u.1/\u.1 < f.params.length) \/ u.1 ∈ idsO f O:=by
 unfold lD at hu
 rw [bW] at hu
 obtain ⟨x,hx,hu⟩:=hu
 have h1:=(wY.1 hc).2.2.2.2 x hx u hu
 have h2:u.1 ∈ (fJ f).map (·.1):=by
  refine Classical.byContradiction fun h => ?_
  rw [gK.2 h] at h1
  exact absurd h1.1 (by simp)
 unfold fJ at h2
 rw [aZ,aM] at h2
 rcases h2 with h2 | h2
 ·exact .inl (aB7 _ h2)
 exact .inr ((oE hc hO hall).mem_iff.2 h2)
theorem aB8 {f:FuncD} {x:BlockD} (hx:x ∈ f.blocks) {u:Int × Int} (hu:u ∈ lX x):u ∈ lD f:=by
 unfold lD
 rw [bW]
 exact ⟨x,hx,hu⟩
theorem wE {f:FuncD} (hf:gW f=true) {x:BlockD} (hx:x ∈ f.blocks) {g g' : Int -> Int} (h:∀ u ∈ lX x,g u.1=g' u.1) :
  (∀ p ∈ x.phis,p.vals.map g=p.vals.map g')/\(∀ y ∈ x.code,y.args.map g=y.args.map g')/\mapT g x.term=mapT g' x.term:=by
 have he:=jW hf
 refine ⟨fun p hp=>bS fun v hv => ?_,fun y hy=>bS fun v hv => ?_, ?_⟩
 ·refine h (v,p.typ) ?_
  unfold lX
  rw [aM,aM,bW]
  refine .inl (.inl ⟨p,hp, ?_⟩)
  unfold oD
  exact aX.2 ⟨v,hv,rfl⟩
 ·obtain ⟨i,hi⟩:=eK hv
  have hl:=he.args x hx y hy
  have hil:=(aF.1 hi).1
  refine h (v,(shp0 y.op).args[i]'(by omega)) ?_
  unfold lX
  rw [aM,aM,bW,bW]
  refine .inl (.inr ⟨y,hy, ?_⟩)
  unfold pH
  refine aG (i:=i) ?_
  rw [cO]
  exact ⟨hi,aC (by omega)⟩
 ·unfold mapT
  by_cases ht:x.term.op=2 \/ x.term.op=3
  ·rw [if_pos ht,if_pos ht]
   obtain ⟨t,hu⟩ : ∃ t,(x.term.val,t) ∈ lX x:=by
    rcases ht with ht | ht
    ·refine ⟨2, ?_⟩
     unfold lX pI
     rw [if_pos ht]
     simp
    refine ⟨0, ?_⟩
    unfold lX pI
    rw [if_neg (by omega),if_pos ht]
    simp
   rw [show g x.term.val=g' x.term.val from h _ hu]
  rw [if_neg ht,if_neg ht]
theorem zJ {f:FuncD} {d:Nat} {x:BlockD} (hf:gW f=true) (hx:f.blocks[d]? = some x) {p:PhiD} (hp:p ∈ x.phis):p.src.Nodup/\p.src.length=p.vals.length /\ ∀ q ∈ p.src,0 <= q/\q < f.blocks.length:=by
 refine ⟨?_,((jW hf).phi x (aG hx) p hp).1,aDU hf hx hp⟩
 unfold gW at hf
 simp only [aL,bB] at hf
 have h8:=(mV.1 (hf.2 (x,d) (by rw [bI];exact hx))).2.1 p hp
 unfold iS at h8
 simp only [aL,decide_eq_true_eq] at h8
 exact h8.2
theorem aB9 {f:FuncD} {O:List Nat} (hc:eZ f=0) (hO:fO f O) (hall:∀ d,d < f.blocks.length -> Way (toB f) (-1) d) {d:Nat} {x:BlockD} (hx:f.blocks[d]? = some x) :
  renB (renV f.params.length (idsO f O)) O x=refB (renW f.params.length (idsO f O)) O x:=by
 have hn:=rQ hc hO hall
 have hf:=(fC hc).1
 have aa:=aG hx
 obtain ⟨c1,c2,c3⟩:=wE hf aa (g:=renV f.params.length (idsO f O)) (g':=renW f.params.length (idsO f O)) fun u hu=>rN hn (zI hc hO hall (aB8 aa hu))
 have ab:∀ v ∈ jT x,renV f.params.length (idsO f O) v=renW f.params.length (idsO f O) v:=fun v hv=>by
  refine rN hn (.inr ?_)
  rw [(oE hc hO hall).mem_iff, <-rO hc,bW]
  exact ⟨x,aa,hv⟩
 obtain ⟨h1,h2,h3, -, -⟩:=hO.facts
 unfold renB refB
 congr 1
 ·apply bS
  intro p hp
  obtain ⟨p1,p2,p3⟩:=zJ hf hx hp
  obtain ⟨s1,s2⟩:=tN (O:=O) (g:=renV f.params.length (idsO f O)) (p:=p) h1 p1 (fun q hq=>⟨(p3 q hq).1,(h2 _).2 (hall _ (by have:=p3 q hq;omega))⟩) p2
  unfold renP refP
  rw [s2,s1,ab p.id (by unfold jT;simp only [aM,aX];exact .inl ⟨p,hp,rfl⟩)]
  have:mapP (renV f.params.length (idsO f O)) p=mapP (renW f.params.length (idsO f O)) p:=by unfold mapP;rw [c1 p hp]
  rw [this]
  rfl
 ·apply bS
  intro y hy
  unfold renX
  rw [c2 y hy]
  by_cases h0:0 <= y.id
  ·rw [if_pos h0,if_pos h0,ab y.id (by unfold jT;simp only [List.mem_append,List.mem_map,List.mem_filter];exact .inr ⟨y,⟨hy,by simpa using h0⟩,rfl⟩)]
  rw [if_neg h0,if_neg h0]
 ·rw [c3]
theorem aCA {f:FuncD} {O:List Nat} (hc:eZ f=0) (hO:fO f O) (hall:∀ d,d < f.blocks.length -> Way (toB f) (-1) d):renF f O=rL f O:=by
 unfold renF rL
 congr 1
 apply bS
 intro b hb
 have aa:=hO.facts.2.2.1 b hb
 rw [jS (aC aa)]
 exact aB9 hc hO hall (aC aa)
theorem zK {f:FuncD} {O Q:List Nat} (h:fO f O) (k:fO f Q):O=Q:=by
 obtain ⟨s,h⟩:=h
 obtain ⟨t,k⟩:=k
 have:=(h.det k).2
 rw [<-List.reverse_reverse O,this,List.reverse_reverse]
def RenP (f g:FuncD) (k:Int):Prop := ∃ s,SErr f s/\((s ≠ 0/\g=xP/\k=s) \/ (s=0/\k=0 /\ ∃ O,fO f O/\g=renF f O))
theorem RenP.one {f g g' : FuncD} {k k' : Int} (h:RenP f g k) (h' : RenP f g' k'):g=g' /\ k=k':=by
 obtain ⟨s,h1,h2⟩:=h
 obtain ⟨s',h3,h4⟩:=h'
 obtain rfl:=h1.one h3
 rcases h2 with ⟨n,rfl,rfl⟩ | ⟨rfl,rfl,O,hO,rfl⟩
 ·rcases h4 with ⟨_,rfl,rfl⟩ | ⟨n2,_⟩
  ·exact ⟨rfl,rfl⟩
  exact absurd n2 n
 rcases h4 with ⟨n2,_⟩ | ⟨_,rfl,Q,hQ,rfl⟩
 ·exact absurd rfl n2
 rw [zK hO hQ];exact ⟨rfl,rfl⟩
theorem mS {f:FuncD} (h:gY f 0 0):∀ d,d < f.blocks.length -> Way (toB f) (-1) d:=(aCK.1 h).1
def idB (g:Int -> Int) (O:List Nat) (x:BlockD):BlockD:=⟨x.phis.map fun p => { p with id:=g p.id },x.code.map fun y => { y with id:=if 0 <= y.id then g y.id else y.id }, { x.term with to:=x.term.to.map (plO O) }⟩
def wF (O:List Nat) (p:PhiD):PhiD := { p with src:=jH (p.src.map (plO O)),vals:=(jH (p.src.map (plO O))).map fun q=>(tyOf ((p.src.map (plO O)).zip p.vals) q).getD 0 }
def tO (O:List Nat) (x:BlockD):BlockD := { x with phis:=x.phis.map (wF O) }
theorem zL (g:Int -> Int) (O:List Nat) (x:BlockD):tO O (mapB g (idB g O x))=renB g O x:=by
 unfold tO mapB idB renB
 simp only [cK,BlockD.mk.injEq]
 refine ⟨?_, ?_, ?_⟩
 ·apply bS;intro p _;rfl
 ·apply bS;intro y _;rfl
 unfold mapT
 simp only
 split <;> rfl
def RenR (f:FuncD) (w:World) (e:Ending) (w' : World):Prop := ∃ (g:FuncD) (k:Int) (v:Value) (S:Foot),RenP f g k/\e = .returned (.tuple #[v,.int .i64 k])/\OFunc w' S v g/\mB w.heap.size S/\Below w.heap.size w w'
def oM (f g:FuncD) (r:Bool):Prop := ∃ (a b:FuncD) (k h:Int),RenP f a k/\RenP g b h/\r=(((k == 0) && (h == 0)) && decide (a=b))
set_option maxHeartbeats 3200000 in
theorem zM (hren:∀ (W:World) (v:Value) (f:FuncD),fU W v f -> Calls Tryz.prog 11 #[v] W (RenR f W)) {w:World} {v v' : Value} {f g:FuncD} (hf:fU w v f) (hg:fU w v' g) :
  Calls Tryz.prog 15 #[v,v'] w fun e w' => ∃ r,e = .returned (.bool r)/\oM f g r/\Below w.heap.size w w':=by
 have HF:=h! hf
 have HG:=h! hg
 have bg:=h! hren
 obtain ⟨ap,cp,ab,cb,rfl, -, -, -, -⟩:=hf.form
 obtain ⟨be,bd,az,bc,rfl, -, -, -, -⟩:=hg.form
 clear hf hg hren
 go_enter Tryz.func15,Tryz.ntmps15
 go_upto_region 1 with (fail)
 have aa:=(Below.refl w.heap.size w).alloc (aB _) (.cells #[.slice ap f.params.length cp,.int .i64 f.arrays,.int .i64 f.cells,.slice ab f.blocks.length cb] 25)
 have HW:=h! aa
 clear aa
 have B1:=h! (Box.new w #[.slice ap f.params.length cp,.int .i64 f.arrays,.int .i64 f.cells,.slice ab f.blocks.length cb] 25)
 have aq:(w.alloc (.cells #[.slice ap f.params.length cp,.int .i64 f.arrays,.int .i64 f.cells,.slice ab f.blocks.length cb] 25)).heap.size=w.heap.size+1:=World.size_alloc _ _
 generalize w.alloc (.cells #[.slice ap f.params.length cp,.int .i64 f.arrays,.int .i64 f.cells,.slice ab f.blocks.length cb] 25)=aw at *
 have aa:=(Below.refl aw.heap.size aw).alloc (aB _) (.cells #[.slice be g.params.length bd,.int .i64 g.arrays,.int .i64 g.cells,.slice az g.blocks.length bc] 25)
 replace B1:=h! (B1.out.later aa)
 replace HW:=h! (HW.out.trans (aa.mono HW.out.size))
 clear aa
 have B2:=h! (Box.new aw #[.slice be g.params.length bd,.int .i64 g.arrays,.int .i64 g.cells,.slice az g.blocks.length bc] 25)
 rw [aq] at B2
 clear aq
 generalize aw.alloc (.cells #[.slice be g.params.length bd,.int .i64 g.arrays,.int .i64 g.cells,.slice az g.blocks.length bc] 25)=wv at *
 obtain ⟨ac,ah,ag⟩:=B1.out
 obtain ⟨ad,ae,af⟩:=B2.out
 go_wp2_with fail
 refine (bg.out _ _ _ (HF.out.below HW.out)).mono ?_
 rintro e w1 ⟨a,k,v1,S1,bh,rfl,bb,bl,hb⟩
 obtain ⟨ax,cx,bx,dx,rfl, -, -, -, -⟩:=bb.reads.form
 have bo:=h! bh
 have HA:=h! (iV bb bl)
 clear bh bb bl
 clear ac ah ag ad ae af
 replace B1:=h! (B1.out.later hb)
 replace B2:=h! (B2.out.later hb)
 replace HW:=h! (HW.out.trans (hb.mono HW.out.size))
 clear hb
 obtain ⟨ac,ah,ag⟩:=B1.out
 obtain ⟨ad,ae,af⟩:=B2.out
 go_upto_region 2 with (fail)
 replace HA:=h! (HA.out.more (aB _))
 have al:w1.heap.size ≠ w.heap.size:=fun e=>by have:=ac;omega
 have nB1B3:w.heap.size ≠ w1.heap.size:=fun e=>al e.symm
 have ao:w1.heap.size ≠ w.heap.size+1:=fun e=>by have:=ad;omega
 have nB2B3:w.heap.size+1 ≠ w1.heap.size:=fun e=>ao e.symm
 clear ac ah ag ad ae af
 have aa:=(Below.refl w1.heap.size w1).alloc (aB _) (.cells #[.slice ax a.params.length cx,.int .i64 a.arrays,.int .i64 a.cells,.slice bx a.blocks.length dx] 25)
 replace B1:=h! (B1.out.later aa)
 replace B2:=h! (B2.out.later aa)
 replace HA:=h! (HA.out.later aa)
 replace HW:=h! (HW.out.trans (aa.mono HW.out.size))
 clear aa
 have B3:=h! (Box.new w1 #[.slice ax a.params.length cx,.int .i64 a.arrays,.int .i64 a.cells,.slice bx a.blocks.length dx] 25)
 generalize w1.alloc (.cells #[.slice ax a.params.length cx,.int .i64 a.arrays,.int .i64 a.cells,.slice bx a.blocks.length dx] 25)=w2 at *
 obtain ⟨ac,ah,ag⟩:=B1.out
 obtain ⟨ad,ae,af⟩:=B2.out
 obtain ⟨ai,ak,aj⟩:=B3.out
 go_wp2_with fail
 refine (bg.out _ _ _ (HG.out.below HW.out)).mono ?_
 rintro e w3 ⟨b,h,v2,S2,bi,rfl,ba,bf,hb⟩
 obtain ⟨ay,cy,dy,ey,rfl, -, -, -, -⟩:=ba.reads.form
 have HP:Hid (RenP f a k/\RenP g b h):=h! ⟨bo.out,bi⟩
 have HB:=h! (iV ba bf)
 clear bi ba bf
 clear ac ah ag ad ae af ai ak aj
 replace B1:=h! (B1.out.later hb)
 replace B2:=h! (B2.out.later hb)
 replace B3:=h! (B3.out.later hb)
 replace HA:=h! (HA.out.later hb)
 replace HW:=h! (HW.out.trans (hb.mono HW.out.size))
 clear hb
 obtain ⟨ac,ah,ag⟩:=B1.out
 obtain ⟨ad,ae,af⟩:=B2.out
 obtain ⟨ai,ak,aj⟩:=B3.out
 go_upto_region 3 with (fail)
 replace HA:=h! (HA.out.more (aB _))
 replace HB:=h! (HB.out.more (aB _))
 have an:w3.heap.size ≠ w.heap.size:=fun e=>by have:=ac;omega
 have nB1B4:w.heap.size ≠ w3.heap.size:=fun e=>an e.symm
 have am:w3.heap.size ≠ w.heap.size+1:=fun e=>by have:=ad;omega
 have nB2B4:w.heap.size+1 ≠ w3.heap.size:=fun e=>am e.symm
 have ar:w3.heap.size ≠ w1.heap.size:=fun e=>by have:=ai;omega
 have nB3B4:w1.heap.size ≠ w3.heap.size:=fun e=>ar e.symm
 clear ac ah ag ad ae af ai ak aj
 have aa:=(Below.refl w3.heap.size w3).alloc (aB _) (.cells #[.slice ay b.params.length cy,.int .i64 b.arrays,.int .i64 b.cells,.slice dy b.blocks.length ey] 25)
 replace B1:=h! (B1.out.later aa)
 replace B2:=h! (B2.out.later aa)
 replace B3:=h! (B3.out.later aa)
 replace HA:=h! (HA.out.later aa)
 replace HB:=h! (HB.out.later aa)
 replace HW:=h! (HW.out.trans (aa.mono HW.out.size))
 clear aa
 have B4:=h! (Box.new w3 #[.slice ay b.params.length cy,.int .i64 b.arrays,.int .i64 b.cells,.slice dy b.blocks.length ey] 25)
 generalize w3.alloc (.cells #[.slice ay b.params.length cy,.int .i64 b.arrays,.int .i64 b.cells,.slice dy b.blocks.length ey] 25)=w4 at *
 obtain ⟨ac,ah,ag⟩:=B1.out
 obtain ⟨ad,ae,af⟩:=B2.out
 obtain ⟨ai,ak,aj⟩:=B3.out
 obtain ⟨bm,bn,bk⟩:=B4.out
 obtain ⟨r,hr⟩ : ∃ r,r=decide (a=b):=⟨_,rfl⟩
 have bj:=h! hr
 clear hr
 cases hk:(k == 0)
 ·have HR:Hid (false=(((k == 0) && (h == 0)) && decide (a=b))):=h! (by rw [hk];rfl)
  go_wp2
  go_ret
  exact ⟨_,rfl,⟨a,b,k,h,HP.out.1,HP.out.2,HR.out⟩,HW.out⟩
 cases hh:(h == 0)
 ·have HR:Hid (false=(((k == 0) && (h == 0)) && decide (a=b))):=h! (by rw [hk,hh];rfl)
  go_wp2
  go_ret
  exact ⟨_,rfl,⟨a,b,k,h,HP.out.1,HP.out.2,HR.out⟩,HW.out⟩
 have HR:Hid (r=(((k == 0) && (h == 0)) && decide (a=b))):=h! (by rw [hk,hh,bj.out];rfl)
 go_wp2_with fail
 refine (aBZ HA.out.now.reads HB.out.now.reads).mono ?_
 rintro e w5 ⟨rfl,hb⟩
 rw [<-bj.out]
 clear ac ah ag ad ae af ai ak aj bm bn bk
 replace B1:=h! (B1.out.later hb)
 replace B2:=h! (B2.out.later hb)
 replace B3:=h! (B3.out.later hb)
 replace B4:=h! (B4.out.later hb)
 replace HA:=h! (HA.out.later hb)
 replace HB:=h! (HB.out.later hb)
 replace HW:=h! (HW.out.trans (hb.mono HW.out.size))
 clear hb
 obtain ⟨ac,ah,ag⟩:=B1.out
 obtain ⟨ad,ae,af⟩:=B2.out
 obtain ⟨ai,ak,aj⟩:=B3.out
 obtain ⟨bm,bn,bk⟩:=B4.out
 go_wp2
 go_ret
 exact ⟨_,rfl,⟨a,b,k,h,HP.out.1,HP.out.2,HR.out⟩,HW.out⟩
end Go.Proofs.YtagabiidbbhhmaaGreat
