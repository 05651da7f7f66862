/- Part 47. -/
import Derived.Test.YtagabiidbbhhmaaGreatEU46
namespace Go.Proofs.YtagabiidbbhhmaaGreat
set_option maxHeartbeats 12800000
set_option linter.all false
open Go.RowKit
def jQ (x:BlockD):List Int:=x.phis.map (·.id) ++ (x.code.filter fun y=>decide (0 <= y.id)).map (·.id)
def kX (f:FuncD) (b:Nat):BlockD:=f.blocks.getD b default
def idsO (f:FuncD) (O:List Nat):List Int:=O.flatMap fun b=>jQ (kX f b)
def iD (np:Nat) (ids:List Int):List (Int × Int):=ids.zipIdx.map fun p=>(p.1,((np+p.2:Nat):Int))
def parJ (np:Nat):List (Int × Int):=(List.range np).map fun i:Nat=>((i:Int),(i:Int))
def fK (np:Nat) (ids:List Int):List (Int × Int):=parJ np ++ iD np ids
def renV (np:Nat) (ids:List Int) (v:Int):Int:=(tyOf (fK np ids) v).getD 0
def renW (np:Nat) (ids:List Int) (v:Int):Int:=(tyOf (iD np ids) v).getD v
def plO (O:List Nat) (q:Int):Int:=((O.idxOf q.toNat:Nat):Int)
def renP (g:Int -> Int) (O:List Nat) (p:PhiD):PhiD :=
 ⟨g p.id,p.typ,jJ (p.src.map (plO O)),(jJ (p.src.map (plO O))).map fun q=>(tyOf ((p.src.map (plO O)).zip (p.vals.map g)) q).getD 0⟩
def renX (g:Int -> Int) (x:InstrD):InstrD:=⟨x.op,if 0 <= x.id then g x.id else x.id,x.args.map g,x.n⟩
def renB (g:Int -> Int) (O:List Nat) (x:BlockD):BlockD:=⟨x.phis.map (renP g O),x.code.map (renX g), { mapT g x.term with to:=x.term.to.map (plO O) }⟩
def renF (f:FuncD) (O:List Nat):FuncD := { f with blocks:=O.map fun b=>renB (renV f.params.length (idsO f O)) O (kX f b) }
theorem mF (A B:List (Int × Int)) (v:Int):tyOf (A ++ B) v=(tyOf A v).or (tyOf B v):=by
 unfold tyOf
 rw [List.find?_append]
 cases A.find? (fun p=>p.1 == v) <;> simp
theorem qD (np:Nat) (ids:List Int) (id:Int):iD np (ids ++ [id])=iD np ids ++ [(id,((np+ids.length:Nat):Int))]:=by
 unfold iD
 rw [List.zipIdx_append,bD]
 simp
theorem mR (np:Nat) (ids:List Int):(iD np ids).map (·.1)=ids:=by
 unfold iD
 rw [cO]
 apply bG
 intro i
 rw [aO,cQ]
 cases ids[i]? <;> simp
theorem rL (np:Nat) (ids:List Int):(iD np ids).length=ids.length:=by simp [iD]
theorem oP {np:Nat} {v:Int}:v ∈ (parJ np).map (·.1) ↔ 0 <= v/\v < np:=by
 unfold parJ
 rw [cO,bB]
 constructor
 ·rintro ⟨i,hi,rfl⟩
  rw [cT] at hi
  simp only [Function.comp]
  omega
 rintro ⟨h1,h2⟩
 exact ⟨v.toNat,cT.2 (by omega),by simp only [Function.comp];omega⟩
theorem rM (np:Nat) (ids:List Int):(fK np ids).length=np+ids.length:=by
 unfold fK
 rw [aI,rL]
 simp [parJ]
theorem wN (np:Nat) (ids:List Int) (id:Int):fK np (ids ++ [id])=fK np ids ++ [(id,(((fK np ids).length:Nat):Int))]:=by
 rw [rM]
 unfold fK
 rw [qD,bN]
theorem wO {np:Nat} {ids:List Int} {v:Int} (h1:¬ (0 <= v/\v < np)) (h2:v ∉ ids):tyOf (fK np ids) v=none:=by
 unfold fK
 rw [mF,iI.2 (fun h=>h1 (oP.1 h)),iI.2 (by rw [mR];exact h2)];rfl
structure Named (np:Nat) (ids:List Int):Prop where
 nodup:ids.Nodup
 out:∀ v ∈ ids,(np:Int) <= v
theorem qE {np:Nat} {ids:List Int} (hn:ids.Nodup) {k:Nat} {v:Int} (h:ids[k]? = some v):tyOf (iD np ids) v=some ((np+k:Nat):Int):=by
 cases hv:tyOf (iD np ids) v with
 | none=>exact absurd (by rw [mR];exact aG h) (iI.1 hv)
 | some t =>
  have h1:=mY hv
  unfold iD at h1
  rw [bB] at h1
  obtain ⟨⟨u,j⟩,h2,h3⟩:=h1
  rw [bT] at h2
  simp only at h2 h3
  have h4:=congrArg Prod.fst h3
  have h5:=congrArg Prod.snd h3
  simp only at h4 h5
  subst h4
  obtain ⟨h6,h7⟩:=aD.1 h
  obtain ⟨h8,h9⟩:=aD.1 h2
  have:j=k:=(List.getElem_inj hn).1 (by rw [h9,h7])
  rw [<-h5,this]
theorem aDY {np:Nat} {ids:List Int} (h:Named np ids) {k:Nat} {v:Int} (hk:ids[k]? = some v):renV np ids v=((np+k:Nat):Int)/\renW np ids v=((np+k:Nat):Int):=by
 have h1:=qE (np:=np) h.nodup hk
 have h2:=h.out v (aG hk)
 constructor
 ·unfold renV fK
  rw [mF,iI.2 (fun h=>by have:=oP.1 h;omega),h1];rfl
 unfold renW
 rw [h1];rfl
theorem pQ {np:Nat} {pre post:List Int} {id:Int} (h:Named np (pre ++ id :: post)):tyOf (fK np pre) id=none/\fK np (pre ++ [id])=fK np pre ++ [(id,(((fK np pre).length:Nat):Int))]/\renV np (pre ++ id :: post) id=(((fK np pre).length:Nat):Int):=by
 have h1:=h.out id (by simp)
 have h2:=h.nodup
 rw [bW] at h2
 refine ⟨wO (by omega) (fun hm=>h2.2.2 id hm id (by simp) rfl),wN np pre id, ?_⟩
 rw [rM]
 exact (aDY h (k:=pre.length) (by rw [bS (aC _),dN];rfl)).1
theorem aDZ {f:FuncD} {d:Nat} {x:BlockD} (hf:gW f=true) (hx:f.blocks[d]? = some x) {p:PhiD} (hp:p ∈ x.phis):∀ q ∈ p.src,0 <= q/\q < f.blocks.length:=fun q hq=>by
 unfold gW at hf
 simp only [aK,aZ] at hf
 have h8:=(nF.1 (hf.2 (x,d) (by rw [bT];exact hx))).2.1 p hp
 unfold iQ at h8
 simp only [aK,aZ] at h8
 have h9:=h8.1.2 q hq
 unfold numB at h9
 simp at h9
 omega
def OffF (D:Foot) (w0 W:World):Prop:=Off D w0 W
theorem OffF.later {D:Foot} {w0 W W' : World} (h:OffF D w0 W) (hb:Below W.heap.size W W'):OffF D w0 W':=Off.trans h (Off.of_below hb D)
theorem OffF.alloc {D:Foot} {w0 W:World} (h:OffF D w0 W) (o:Obj):OffF D w0 (W.alloc o):=Off.trans h (Off.alloc D W o)
theorem OffF.other {D:Foot} {w0 W:World} (h:OffF D w0 W) {p:Addr} (v:Value) (hp:D p.block \/ w0.heap.size <= p.block):OffF D w0 (W.setCell p v) :=
 Off.grow h (Off.set W p v) (fun q hq=>by cases hq;exact hp)
private theorem fN.alloc {w0 W:World} (h:fN w0 W) (o:Obj):fN w0 (W.alloc o):=h.later ((Below.refl _ _).alloc (aC _) o)
theorem nM {f:FuncD} {b:Nat} {x:BlockD} (h:f.blocks[b]? = some x):kX f b=x:=getD_some h
theorem uN {f:FuncD} (hc:eV f=0) {x:BlockD} (hx:x ∈ f.blocks):jQ x=(iU x).map (·.1):=by
 unfold jQ iU
 rw [bD,cO,cO]
 have h1:x.code.filter (fun y=>decide (0 <= y.id))=x.code.filter (fun y=>(shp0 y.op).result != 0):=by
  apply List.filter_congr
  intro y hy
  have:=uV hc x hx y hy
  rw [bU]
  simp only [decide_eq_true_eq,bne_iff_ne]
  exact this
 rw [h1]
 rfl
theorem zS {f:FuncD} (hc:eV f=0):f.blocks.flatMap jQ=(nN f).map (·.1):=by
 unfold nN
 rw [List.map_flatMap]
 have:∀ l:List BlockD,(∀ x ∈ l,x ∈ f.blocks) -> l.flatMap jQ=l.flatMap fun x=>(iU x).map (·.1):=fun l=>by
  induction l with
  | nil=>intro _;rfl
  | cons x l ih=>intro h;rw [cC,cC,uN hc (h x (by simp)),ih fun y hy=>h y (bX _ hy)]
 exact this _ fun x hx=>hx
theorem wP {f:FuncD} {O:List Nat} (hO:fT f O) (hall:∀ d,d < f.blocks.length -> Way (toB f) (-1) d):O.Perm (List.range f.blocks.length):=by
 obtain ⟨h1,h2,h3, -, -⟩:=hO.facts
 rw [List.perm_ext_iff_of_nodup h1 List.nodup_range]
 intro a
 rw [cT]
 exact ⟨h3 a,fun h=>(h2 a).2 (hall a h)⟩
theorem rN (f:FuncD):(List.range f.blocks.length).flatMap (fun b=>jQ (kX f b))=f.blocks.flatMap jQ:=by
 have h:(List.range f.blocks.length).map (kX f)=f.blocks:=by
  apply bG
  intro i
  rw [aO]
  by_cases hi:i < f.blocks.length
  ·rw [dL hi,aB hi,cP,nM (aB hi)]
  rw [aT (by rw [List.length_range];omega),aT (by omega)];rfl
 have h2:f.blocks.flatMap jQ=((List.range f.blocks.length).map (kX f)).flatMap jQ:=by rw [h]
 rw [h2,List.flatMap_map]
theorem uO {f:FuncD} {O:List Nat} (hc:eV f=0) (hO:fT f O) (hall:∀ d,d < f.blocks.length -> Way (toB f) (-1) d):(idsO f O).Perm ((nN f).map (·.1)):=by
 rw [<-zS hc, <-rN]
 exact (wP hO hall).flatMap_right _
theorem zT {f:FuncD} {O:List Nat} (hc:eV f=0) (hO:fT f O) (hall:∀ d,d < f.blocks.length -> Way (toB f) (-1) d):Named f.params.length (idsO f O):=by
 have h2:=(eY hc).2
 have hp:=uO hc hO hall
 refine ⟨?_,fun v hv => ?_⟩
 ·rw [hp.nodup_iff]
  have h3:=nP h2
  rw [bD,bW] at h3
  exact h3.2.1
 rw [hp.mem_iff,bB] at hv
 obtain ⟨p,aa,rfl⟩:=hv
 unfold idsF idsB at h2
 rw [aK,aZ] at h2
 have h4:=h2.2 p aa
 simp at h4
 omega
theorem aFF {f:FuncD} {d:Nat} {x:BlockD} (hf:gW f=true) (hx:f.blocks[d]? = some x) {p:PhiD} (hp:p ∈ x.phis):p.src.Nodup/\p.src.length=p.vals.length /\ ∀ q ∈ p.src,0 <= q/\q < f.blocks.length:=by
 refine ⟨?_,((jP hf).phi x (aG hx) p hp).1,aDZ hf hx hp⟩
 unfold gW at hf
 simp only [aK,aZ] at hf
 have h8:=(nF.1 (hf.2 (x,d) (by rw [bT];exact hx))).2.1 p hp
 unfold iQ at h8
 simp only [aK,decide_eq_true_eq] at h8
 exact h8.2
theorem zU {f:FuncD} {O Q:List Nat} (h:fT f O) (k:fT f Q):O=Q:=by
 obtain ⟨s,h⟩:=h
 obtain ⟨t,k⟩:=k
 have:=(h.det k).2
 rw [<-List.reverse_reverse O,this,List.reverse_reverse]
def RenP (f g:FuncD) (k:Int):Prop := ∃ s,SErr f s/\((s ≠ 0/\g=aC4/\k=s) \/ (s=0/\k=0 /\ ∃ O,fT f O/\g=renF f O))
theorem RenP.one {f g g' : FuncD} {k k' : Int} (h:RenP f g k) (h' : RenP f g' k'):g=g' /\ k=k':=by
 obtain ⟨s,h1,h2⟩:=h
 obtain ⟨s',h3,h4⟩:=h'
 obtain rfl:=h1.one h3
 rcases h2 with ⟨n,rfl,rfl⟩ | ⟨rfl,rfl,O,hO,rfl⟩
 ·rcases h4 with ⟨_,rfl,rfl⟩ | ⟨n2,_⟩
  ·exact ⟨rfl,rfl⟩
  exact absurd n2 n
 rcases h4 with ⟨n2,_⟩ | ⟨_,rfl,Q,hQ,rfl⟩
 ·exact absurd rfl n2
 rw [zU hO hQ];exact ⟨rfl,rfl⟩
theorem qF {f:FuncD} (h:gD f 0 0):∀ d,d < f.blocks.length -> Way (toB f) (-1) d:=(aCZ.1 h).1
theorem aB8 {w:World} {mb:Nat} {T:List (Int × Int)} (hm:IMap w mb (encT T)) (ty:TypeId):(Builtin.len_ #[93] ty #[.map (some mb)]).run Tryz.prog w = .ok (.int .i64 (T.length:Int)) w:=by
 obtain ⟨es,c,hh,aa, -⟩:=hm.ex
 have h1:=congrArg List.length aa
 simp only [bI,encT,Array.length_toList] at h1
 rw [run_len_map (P:=Tryz.prog) (w:=w) (t:=93) (ty:=ty) (r:=mb) (es:=es) (clock:=c) (by kernel_rfl) hh,h1]
 rfl
theorem wQ:Enters Tryz.prog 74:=enters_of Tryz.func74 (by kernel_rfl) rfl
theorem pR:Enters Tryz.prog 73:=enters_of Tryz.func73 (by kernel_rfl) rfl
theorem aFG {w:World} {p mb:Nat} {T:List (Int × Int)} {v:Int} (hp:Box w p #[.map (some mb)]) (hm:IMap w mb (encT T)) :
  Calls Tryz.prog 74 #[.int .i64 v,.pointer (some ⟨p,0,none⟩)] w fun e w'=>e = .returned (.int .i64 ((tyOf T v).getD 0))/\Below w.heap.size w w':=by
 obtain ⟨l1,c1,f1⟩:=hp
 obtain ⟨t,ht⟩ : ∃ t,t=(tyOf T v).getD 0:=⟨_,rfl⟩
 have hlk:(Instr.lookup 93 (.map (some mb)) (.int .i64 v) false).run Tryz.prog w = .ok (.int .i64 t) w:=by
  rw [hm.lookup0 Tryz.underlying93 Tryz.underlying3 (fY _) v,gR,ht]
  cases tyOf T v <;> rfl
 rw [<-ht]
 clear ht hm
 go_enter Tryz.func74,Tryz.ntmps74
 go_wp2
 go_ret
 exact ⟨rfl,Below.refl _ _⟩
set_option maxRecDepth 100000 in
theorem aC9 {w:World} {p mb:Nat} {T:List (Int × Int)} {v:Int} (hp:Box w p #[.map (some mb)]) (hm:IMap w mb (encT T)) (hn:tyOf T v=none) (hpm:p ≠ mb) :
  Calls Tryz.prog 73 #[.int .i64 v,.pointer (some ⟨p,0,none⟩)] w fun e w'=>e = .returned (.int .i64 (T.length:Int))/\IMap w' mb (encT (T ++ [(v,(T.length:Int))]))/\Turn [mb] w w':=by
 have HP:=h! hp
 obtain ⟨l1,c1,f1⟩:=hp
 have HM:=h! hm
 have HN:=h! hn
 have af:=h! hpm
 have ad:(Instr.lookup 93 (.map (some mb)) (.int .i64 v) true).run Tryz.prog w = .ok (.tuple #[.int .i64 0,.bool false]) w:=by
  rw [hm.lookup Tryz.underlying93 Tryz.underlying3 (fY _) v,gR,hn];rfl
 have ab:=aB8 hm
 obtain ⟨n,aa⟩ : ∃ n:Nat,n=T.length:=⟨_,rfl⟩
 rw [<-aa] at ab ⊢
 have HNN:=h! aa
 clear hm hn hpm aa
 go_enter Tryz.func73,Tryz.ntmps73
 go_upto_region 4 with (at_mapUpdate;refine fJ (q:=.i64) (b:=mb) rfl _ _ _ _ (.inl rfl) Tryz.underlying93 Tryz.underlying3 rfl HM.out rfl ?_;intro w2 h1 h2 h3)
 have ae:=h! h3
 have ac:Hid (IMap w2 mb (encT (T ++ [(v,(n:Int))]))):=h! (by rw [<-mZ HN.out];exact h1)
 have ag:=h! (HP.out.turn h3 (by simpa using af.out))
 have hlk2:(Instr.lookup 93 (.map (some mb)) (.int .i64 v) false).run Tryz.prog w2 = .ok (.int .i64 (n:Int)) w2:=by
  rw [ac.out.lookup0 Tryz.underlying93 Tryz.underlying3 (fY _) v,gR,mF,HN.out]
  simp [tyOf]
 clear h1 h2 h3 l1 c1 f1 ad ab
 obtain ⟨l1,c1,f1⟩:=ag.out
 go_wp2
 go_ret
 exact ⟨rfl,ac.out,ae.out⟩
theorem lH:Enters Tryz.prog 121:=enters_of Tryz.func121 (by kernel_rfl) rfl
theorem uP {w:World} {p mb:Nat} {T:List (Int × Int)} {v:Int} (hp:Box w p #[.map (some mb)]) (hm:IMap w mb (encT T)) :
  Calls Tryz.prog 121 #[.int .i64 v,.pointer (some ⟨p,0,none⟩)] w fun e w'=>e = .returned (.int .i64 (toP T v))/\Below w.heap.size w w':=by
 obtain ⟨l1,c1,f1⟩:=hp
 cases ht:tyOf T v with
 | none =>
  have aa:(Instr.lookup 93 (.map (some mb)) (.int .i64 v) true).run Tryz.prog w = .ok (.tuple #[.int .i64 0,.bool false]) w:=by
   rw [hm.lookup Tryz.underlying93 Tryz.underlying3 (fY _) v,gR,ht];rfl
  have HE:Hid (toP T v=v):=h! (by unfold toP;rw [ht];rfl)
  clear hm ht
  go_enter Tryz.func121,Tryz.ntmps121
  go_wp2
  go_ret
  exact ⟨by rw [HE.out];rfl,Below.refl _ _⟩
 | some t =>
  have aa:(Instr.lookup 93 (.map (some mb)) (.int .i64 v) true).run Tryz.prog w = .ok (.tuple #[.int .i64 t,.bool true]) w:=by
   rw [hm.lookup Tryz.underlying93 Tryz.underlying3 (fY _) v,gR,ht];rfl
  have HE:Hid (toP T v=t):=h! (by unfold toP;rw [ht];rfl)
  clear hm ht
  go_enter Tryz.func121,Tryz.ntmps121
  go_wp2
  go_ret
  exact ⟨by rw [HE.out];rfl,Below.refl _ _⟩
theorem aD0 {f:FuncD} (hc:eV f=0) {x:BlockD} (hx:x ∈ f.blocks):(∀ p ∈ x.phis,p.id < 1048576) /\ ∀ y ∈ x.code,y.id < 1048576:=by
 have h2:=(eY hc).2
 unfold idsF idsB at h2
 rw [aK,aZ] at h2
 have aa:∀ v ∈ jQ x,v < 1048576:=fun v hv=>by
  rw [uN hc hx] at hv
  obtain ⟨d,hd,rfl⟩:=bB.1 hv
  have h3:=h2.2 d (by unfold nN;rw [cU];exact ⟨x,hx,hd⟩)
  simp at h3
  exact h3.2
 refine ⟨fun p hp=>aa _ (by unfold jQ;rw [aL];exact .inl (bB.2 ⟨p,hp,rfl⟩)),fun y hy => ?_⟩
 by_cases h0:0 <= y.id
 ·exact aa _ (by unfold jQ;rw [List.mem_append];exact .inr (List.mem_map.2 ⟨y,List.mem_filter.2 ⟨hy,by simpa using h0⟩,rfl⟩))
 omega
def aFH (w:World) (e:Ending) (w' : World):Prop := ∃ n:Int,e = .returned (.int .i64 n)/\0 <= n/\n <= 1048576/\Below w.heap.size w w'
set_option maxRecDepth 100000 in
theorem zV {w:World} {v:Value} {f:FuncD} (hv:fP w v f) (hc:eV f=0):Calls Tryz.prog 120 #[v] w (aFH w):=by
 obtain ⟨ap,cp,ab,cb,rfl,hp,ha,bp,hB⟩:=hv.form
 obtain ⟨a2,c2,bb,bo,de,cG,hbm,db,cg,cq⟩:=eW hB
 cases de
 have HF:=h! (eY hc).1
 have aq:f.params.length <= 4112:=by
  have h2:=nB HF.out
  unfold fC at h2
  rw [aI] at h2
  have h3:(parT f.params).length=f.params.length:=by simp [parT]
  omega
 have cc:f.blocks.length <= 512:=(gG HF.out).2
 have da:=h! (mK hc)
 have bv:=h! (fun (x:BlockD) (hx:x ∈ f.blocks)=>aD0 hc hx)
 obtain ⟨np,bO⟩ : ∃ np,np=f.params.length:=⟨_,rfl⟩
 obtain ⟨ar,co⟩ : ∃ ar,ar=f.arrays:=⟨_,rfl⟩
 obtain ⟨ce,cr⟩ : ∃ ce,ce=f.cells:=⟨_,rfl⟩
 obtain ⟨nb,be⟩ : ∃ nb,nb=f.blocks.length:=⟨_,rfl⟩
 rw [<-bO] at aq
 rw [<-be] at cG cg db cc
 rw [<-be, <-bO, <-co, <-cr]
 have dc:=h! be
 have cF:=h! cg
 have cz:=h! cq
 clear hp ha bp hB hv cq bO be cg co cr hc
 go_enter Tryz.func120,Tryz.ntmps120
 go_upto_region 1 with (fail)
 have ay:=(Below.refl w.heap.size w).alloc (aC _) (.cells #[.slice ap np cp,.int .i64 ar,.int .i64 ce,.slice ab nb cb] 25)
 have HW:=h! ay
 clear ay
 have B1:=h! (Box.new w #[.slice ap np cp,.int .i64 ar,.int .i64 ce,.slice ab nb cb] 25)
 generalize w.alloc (.cells #[.slice ap np cp,.int .i64 ar,.int .i64 ce,.slice ab nb cb] 25)=wv at *
 obtain ⟨cy,cx,cB⟩:=B1.out
 go_wp2_with fail
 clear cy cx cB
 go_loopw [3,17] (fun mv iv wr => ∃ (i:Nat) (m:Int),i <= nb/\iv = .int .i64 i/\mv = .int .i64 m /\ -1 <= m/\m < 1048576/\Below w.heap.size w wr) (fun _ iv _=>nb - (intOf iv).toNat)
 case atStart=>exact ⟨0,(np:Int) - 1,aH _,rfl,by go_num,by omega,by omega,HW.out⟩
 obtain ⟨i,m,hi,rfl,rfl,ah,ai,hW⟩:=hrel
 replace HW:=h! hW
 clear hW
 generalize wr=w1 at *
 by_cases hlt:i < nb
 ·obtain ⟨rfl,cw⟩:=cF.out (by omega)
  obtain ⟨x,hx⟩ : ∃ x,f.blocks[i]? = some x:=⟨_,aB (by rw [<-dc.out];exact hlt)⟩
  obtain ⟨bd,bj,bh,bg,bi,bf,hC⟩:=cz.out i x hx
  have ax:=hC.phis
  have am:=hC.code
  obtain ⟨k0,k1,k2,k3,k4,k5,q1,q2,q3,q4,q5,q6⟩:=hC.below HW.out cw
  have al:=bv.out x (aG hx)
  have bc:=da.out.1 x (aG hx)
  have cM:=h! al.1
  have dd:=h! al.2
  obtain ⟨pl,br⟩ : ∃ pl,pl=x.phis.length:=⟨_,rfl⟩
  obtain ⟨cl,bl⟩ : ∃ cl,cl=x.code.length:=⟨_,rfl⟩
  obtain ⟨ac,capc,bcd,ocd,az,cs,hcm,aw,ck,cn⟩:=fS am
  obtain ⟨apx,capp,bph,oph,an,ci,hppm,ba,ak,ao⟩:=fH ax
  rw [<-br] at an ci ba ak k0 bc
  rw [<-bl] at az cs aw ck k1 bc
  cases an
  cases az
  have hs1:=bc.1
  have hs2:=bc.2
  have cL:=h! br
  have df:=h! bl
  have bm:=h! ak
  have bz:=h! ao
  have bq:=h! ck
  have bt:=h! cn
  clear br bl ak ao ck cn ax am q1 q2 q3 q4 q5 q6 hC hx al bc
  go_upto_region 5 with (fail)
  clear k0 k1 k2 k3 k4 k5
  have ay:=(Below.refl w1.heap.size w1).alloc (aC _) (.cells #[.slice bd pl bg,.slice bj cl bi,.int .i64 x.term.op,.int .i64 x.term.val,.slice bh x.term.to.length bf,.int .i64 x.term.n] 63)
  replace HW:=h! (HW.out.trans (ay.mono HW.out.size))
  clear ay
  have B5:=h! (Box.new w1 #[.slice bd pl bg,.slice bj cl bi,.int .i64 x.term.op,.int .i64 x.term.val,.slice bh x.term.to.length bf,.int .i64 x.term.n] 63)
  generalize w1.alloc (.cells #[.slice bd pl bg,.slice bj cl bi,.int .i64 x.term.op,.int .i64 x.term.val,.slice bh x.term.to.length bf,.int .i64 x.term.n] 63)=w2 at *
  obtain ⟨ch,bn,cd⟩:=B5.out
  obtain ⟨b5,cj⟩ : ∃ b5,b5=w1.heap.size:=⟨_,rfl⟩
  clear ch bn cd
  rw [<-cj] at B5
  simp only [<-cj]
  clear cj
  obtain ⟨ch,bn,cd⟩:=B5.out
  go_wp2_with fail
  clear ch bn cd
  go_loopw [3,24] (fun mv kv wr => ∃ (k:Nat) (m:Int),k <= pl/\kv = .int .i64 k/\mv = .int .i64 m /\ -1 <= m/\m < 1048576/\Below w2.heap.size w2 wr) (fun _ kv _=>pl - (intOf kv).toNat)
  case atStart=>exact ⟨0,m,aH _,rfl,rfl,ah,ai,Below.refl _ _⟩
  clear ah ai
  obtain ⟨k,m,hk,rfl,rfl,ah,ai,hb⟩:=hrel
  have HB:=h! hb
  clear hb
  by_cases hlt2:k < pl
  ·obtain ⟨rfl,bk⟩:=bm.out (by omega)
   obtain ⟨p,hp⟩ : ∃ p,x.phis[k]? = some p:=⟨_,aB (by rw [<-cL.out];exact hlt2)⟩
   obtain ⟨af,av,cf,cv,hP⟩:=bz.out k p hp
   obtain ⟨m0,m1,m2,m3,r1,r2,r3,r4⟩:=hP.below (HW.out.trans (HB.out.mono HW.out.size)) bk
   have bx:=cM.out p (aG hp)
   obtain ⟨pid,ad⟩ : ∃ pid,pid=p.id:=⟨_,rfl⟩
   rw [<-ad] at m0 bx
   clear r1 r2 r3 r4 hP hp ad
   go_upto_region 9 with (fail)
   obtain ⟨mm,ae⟩ : ∃ mm,mm=max m pid:=⟨_,rfl⟩
   rw [<-ae]
   have ag : -1 <= mm:=by rw [ae,Int.max_def];split <;> omega
   have aj : mm < 1048576:=by rw [ae,Int.max_def];split <;> omega
   clear ae m0 m1 m2 m3
   go_wp2
   go_roundw
   case rel=>exact ⟨k+1,mm,hlt2,by go_num,rfl,ag,aj,HB.out.alloc HB.out.size _⟩
   simp [intOf];omega
  obtain rfl:pl=k:=by omega
  have ct:Hid (Box wr b5 #[.slice bd pl bg,.slice bj cl bi,.int .i64 x.term.op,.int .i64 x.term.val,.slice bh x.term.to.length bf,.int .i64 x.term.n]):=h! (B5.out.later HB.out)
  replace HW:=h! (HW.out.trans (HB.out.mono HW.out.size))
  clear HB
  generalize wr=w3 at *
  obtain ⟨bw,cm,bs⟩:=ct.out
  go_wp2_with fail
  clear bw cm bs
  go_loopw [3,36] (fun mv kv wr => ∃ (k:Nat) (m:Int),k <= cl/\kv = .int .i64 k/\mv = .int .i64 m /\ -1 <= m/\m < 1048576/\Below w3.heap.size w3 wr) (fun _ kv _=>cl - (intOf kv).toNat)
  case atStart=>exact ⟨0,m,aH _,rfl,rfl,ah,ai,Below.refl _ _⟩
  clear ah ai
  obtain ⟨k,m,hk,rfl,rfl,ah,ai,hb⟩:=hrel
  have HB:=h! hb
  clear hb
  by_cases hlt2:k < cl
  ·obtain ⟨rfl,bk⟩:=bq.out (by omega)
   obtain ⟨p,hp⟩ : ∃ p,x.code[k]? = some p:=⟨_,aB (by rw [<-df.out];exact hlt2)⟩
   obtain ⟨aa,ca,hP⟩:=bt.out k p hp
   obtain ⟨m0,m1,m2,m3,r1,r2,r3,r4⟩:=hP.below (HW.out.trans (HB.out.mono HW.out.size)) bk
   have bx:=dd.out p (aG hp)
   obtain ⟨pid,ad⟩ : ∃ pid,pid=p.id:=⟨_,rfl⟩
   rw [<-ad] at m1 bx
   clear r1 r2 r3 r4 hP hp ad
   go_upto_region 14 with (fail)
   obtain ⟨mm,ae⟩ : ∃ mm,mm=max m pid:=⟨_,rfl⟩
   rw [<-ae]
   have ag : -1 <= mm:=by rw [ae,Int.max_def];split <;> omega
   have aj : mm < 1048576:=by rw [ae,Int.max_def];split <;> omega
   clear ae m0 m1 m2 m3
   go_wp2
   go_roundw
   case rel=>exact ⟨k+1,mm,hlt2,by go_num,rfl,ag,aj,HB.out.alloc HB.out.size _⟩
   simp [intOf];omega
  obtain rfl:cl=k:=by omega
  replace HW:=h! (HW.out.trans (HB.out.mono HW.out.size))
  clear HB
  go_wp2
  go_roundw
  case rel=>exact ⟨i+1,m,hlt,by go_num,rfl,ah,ai,HW.out⟩
  simp [intOf];omega
 obtain rfl:nb=i:=by omega
 go_wp2
 go_ret
 exact ⟨m+1,rfl,by omega,by omega,HW.out⟩
theorem fV.ident {W:World} {S:Foot} {v:Value} {ps:List PhiD} (h:fV W S v ps) {j:Nat} {p:PhiD} (hj:ps[j]? = some p) {g cap:Nat} (hv:v = .slice (some ⟨g,0,none⟩) ps.length cap) {y:Int} (hy:In64 y) :
  fV (W.setCell ⟨g,j * 4,none⟩ (.int .i64 y)) S v (ps.set j { p with id:=y }):=by
 obtain ⟨cs,G,F,hp⟩:=h
 have ad:=(aD.1 hj).1
 have hn:0 < ps.length:=by omega
 have hG:G g:=by
  obtain ⟨g',cap',ac,ai, -⟩:=hp.row.addr hn
  rw [hv] at ac;cases ac;exact ai
 obtain ⟨⟨a,b,Sf,Sv,ag,h1,h2,af,i1,i2⟩,ah,q1,q2⟩:=hp.el j p hj
 have aa:=Off.set W ⟨g,j * 4+0,none⟩ (.int .i64 y)
 have ae:∀ k,F j k -> k ≠ g:=fun k hk e=>hp.free j ad k hk (by rw [e];exact hG)
 have ab:OPhi (W.setCell ⟨g,j * 4+0,none⟩ (.int .i64 y)) (F j) (iP (cs.set (j * 4+0) (.int .i64 y)) 4 j) { p with id:=y }:=by
  rw [fA (by omega),ag]
  exact ⟨⟨a,b,Sf,Sv,rfl,h1.off aa (fun k hk e=>ae k (i1 k hk) e),h2.off aa (fun k hk e=>ae k (i2 k hk) e),af,i1,i2⟩,fun k hk=>by simpa [World.setCell] using ah k hk,hy,q2⟩
 exact ⟨_,G,_,hp.put OPhi.nice hj _ (Fj:=F j) (aa.mono fun k _ hk=>by cases hk;exact .inl hG) (hp.row.set hv (by omega) (j * 4+0) _) (fun q hq hne=>gL hne (by omega)) ab (fun k hk=>.inl hk) S (fun k hk=>hk) (fun k hk=>hp.inF j k ad hk) (fun k hk=>by simpa [World.setCell] using hp.lt k hk)⟩
theorem gX.ident {W:World} {S:Foot} {v:Value} {ys:List InstrD} (h:gX W S v ys) {j:Nat} {p:InstrD} (hj:ys[j]? = some p) {g cap:Nat} (hv:v = .slice (some ⟨g,0,none⟩) ys.length cap) {y:Int} (hy:In64 y) :
  gX (W.setCell ⟨g,j * 4+1,none⟩ (.int .i64 y)) S v (ys.set j { p with id:=y }):=by
 obtain ⟨cs,G,F,hp⟩:=h
 have ac:=(aD.1 hj).1
 have hn:0 < ys.length:=by omega
 have hG:G g:=by
  obtain ⟨g',cap',ad,ag, -⟩:=hp.row.addr hn
  rw [hv] at ad;cases ad;exact ag
 have hlt:∀ k,F j k -> k < W.heap.size:=fun k hk=>hp.lt k (hp.inF j k ac hk)
 obtain ⟨⟨a,ae,h1⟩,q1,q2,q3⟩:=hp.el j p hj
 have aa:=Off.set W ⟨g,j * 4+1,none⟩ (.int .i64 y)
 have af:∀ k,F j k -> k ≠ g:=fun k hk e=>hp.free j ac k hk (by rw [e];exact hG)
 have ab:OInstr (W.setCell ⟨g,j * 4+1,none⟩ (.int .i64 y)) (F j) (iP (cs.set (j * 4+1) (.int .i64 y)) 4 j) { p with id:=y }:=by
  rw [fA (by omega),ae]
  exact ⟨⟨a,rfl,h1.off aa (fun k hk e=>af k hk e)⟩,q1,hy,q3⟩
 exact ⟨_,G,_,hp.put OInstr.nice hj _ (Fj:=F j) (aa.mono fun k _ hk=>by cases hk;exact .inl hG) (hp.row.set hv (by omega) (j * 4+1) _) (fun q hq hne=>gL hne (by omega)) ab (fun k hk=>.inl hk) S (fun k hk=>hk) (fun k hk=>hp.inF j k ac hk) (fun k hk=>by simpa [World.setCell] using hp.lt k hk)⟩
theorem fV.both {W:World} {S:Foot} {v:Value} {ps:List PhiD} (h:fV W S v ps) {j:Nat} {p:PhiD} (hj:ps[j]? = some p) :
  ∃ (g cap:Nat) (af av:Option Addr) (cf cv:Nat) (Sf Sv:Foot),v = .slice (some ⟨g,0,none⟩) ps.length cap/\g < W.heap.size/\S g/\PhiC W g (j * 4) p af av cf cv/\(∀ o,W.frozen? ⟨g,o,none⟩=false) /\
   eR W Sf (.slice af p.src.length cf) p.src/\eR W Sv (.slice av p.vals.length cv) p.vals/\Sf.off Sv/\(∀ k,Sf k -> S k)/\(∀ k,Sv k -> S k) /\ ¬ Sf g /\ ¬ Sv g /\
   (∀ (W' : World) (src vals:List Int),Off (Sf.or Sv) W W' -> eR W' Sf (.slice af p.src.length cf) src -> eR W' Sv (.slice av p.vals.length cv) vals -> fV W' S v (ps.set j { p with src:=src,vals:=vals })):=by
 obtain ⟨cs,G,F,hp⟩:=h
 have ad:=(aD.1 hj).1
 obtain ⟨g,cap,hv,hG, -, -,ai,aa,aj⟩:=hp.row.addr (by omega)
 obtain ⟨⟨a,b,Sf,Sv,ag,h1,h2,ac,i1,i2⟩,hFl,q1,q2⟩:=hp.el j p hj
 obtain ⟨af,cf,rfl⟩:=h1.ints.form
 obtain ⟨av,cv,rfl⟩:=h2.ints.form
 have hc:∀ o u,o < 4 -> (iP cs 4 j)[o]? = some u -> W.cell? ⟨g,j * 4+o,none⟩=some u:=fun o u ho hu=>aa _ _ (by rw [<-jL ho];exact hu)
 rw [ag] at hc
 have nG:∀ k,F j k -> ¬ G k:=hp.free j ad
 have ab:∀ k,F j k -> S k:=fun k hk=>hp.inF j k ad hk
 refine ⟨g,cap,af,av,cf,cv,Sf,Sv,hv,ai,hp.inG g hG,⟨hc 0 _ (by omega) rfl,hc 1 _ (by omega) rfl,hc 2 _ (by omega) rfl,hc 3 _ (by omega) rfl,h1.ints,h2.ints,q1,q2⟩,aj,h1,h2,ac,fun k hk=>ab k (i1 k hk),fun k hk=>ab k (i2 k hk),fun hk=>nG g (i1 g hk) hG,fun hk=>nG g (i2 g hk) hG,fun W' src vals ho hs ha => ?_⟩
 have ah:Off (G.or (F j)) W W':=ho.mono fun k _ hk=>.inr (hk.elim (i1 k) (i2 k))
 have ae:∀ k,S k -> k < W'.heap.size:=fun k hk=>aR (hp.lt k hk) ho.size
 refine ⟨cs,G,_,hp.put OPhi.nice hj { p with src:=src,vals:=vals } (Fj:=F j) ah (hp.row.off ho fun k h1 h2=>nG k (h2.elim (i1 k) (i2 k)) h1) (fun _ _ _=>rfl) ?_ (fun k hk=>.inl hk) S (fun k hk=>hk) (fun k hk=>ab k hk) ae⟩
 rw [ag]
 exact ⟨⟨_,_,Sf,Sv,rfl,hs,ha,ac,i1,i2⟩,fun k hk=>ae k (ab k hk),q1,q2⟩
def idB (g:Int -> Int) (O:List Nat) (x:BlockD):BlockD:=⟨x.phis.map fun p => { p with id:=g p.id },x.code.map fun y => { y with id:=if 0 <= y.id then g y.id else y.id }, { x.term with to:=x.term.to.map (plO O) }⟩
def wR (O:List Nat) (p:PhiD):PhiD := { p with src:=jJ (p.src.map (plO O)),vals:=(jJ (p.src.map (plO O))).map fun q=>(tyOf ((p.src.map (plO O)).zip p.vals) q).getD 0 }
def tE (O:List Nat) (x:BlockD):BlockD := { x with phis:=x.phis.map (wR O) }
theorem zW (g:Int -> Int) (O:List Nat) (x:BlockD):tE O (mapB g (idB g O x))=renB g O x:=by
 unfold tE mapB idB renB
 simp only [cO,BlockD.mk.injEq]
 refine ⟨?_, ?_, ?_⟩
 ·apply dB;intro p _;rfl
 ·apply dB;intro y _;rfl
 unfold mapT
 simp only
 split <;> rfl
end Go.Proofs.YtagabiidbbhhmaaGreat
