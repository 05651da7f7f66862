/- Part 1. -/
import Derived.Lib.Hide
import Derived.Test.YtcmflfkpeodicaaGreatRows
import Derived.BigQuiet
import Derived.Handy
import Derived.SizedLaws
import Derived.Laws.AppendOwnNone
import Derived.StillTailTactics
import Derived.Deep.Matrix
import Derived.Deep.AppendLies
import Derived.Deep.RegionHeld3
namespace Go.Proofs.YtcmflfkpeodicaaGreat
set_option linter.all false
section
theorem h! {p : Prop} (h : p) : Go.RowKit.Hid p := Go.Lib.hid h
abbrev aA := @List.setIfInBounds_toArray
abbrev aB := @List.getElem?_eq_getElem
abbrev aC := @List.set_cons_zero
abbrev aD := @List.set_cons_succ
abbrev aE := @List.getElem?_eq_some_iff
abbrev aF := @Nat.le_refl
abbrev aG := @List.mem_of_getElem?
abbrev aH := @List.getD_eq_getElem?_getD
abbrev aI := @List.take_of_length_le
abbrev aJ := @Nat.le_trans
abbrev aK := @List.take_succ_cons
abbrev aL := @Nat.lt_of_lt_of_le
abbrev aM := @List.drop_succ_cons
abbrev aN := @Bool.and_eq_true
abbrev aO := @List.mem_append
abbrev aP := @Nat.zero_le
abbrev aQ := @List.length_append
abbrev aR := @List.take_zero
abbrev aS := @Array.getElem?_eq_some_iff
abbrev aT := @List.drop_zero
abbrev aU := @List.getElem?_map
abbrev aV := @List.length_replicate
abbrev aW := @List.getElem?_eq_none
abbrev aX := @List.length_take
abbrev aY := @List.mem_map
abbrev aZ := @List.all_eq_true
abbrev bA := @Array.getElem?_eq_none
abbrev bB := @List.length_cons
abbrev bC := @Array.getElem?_eq_getElem
abbrev bD := @List.length_map
abbrev bE := @List.getElem?_take
abbrev bF := @List.map_append
abbrev bG := @Nat.le_of_lt
abbrev bH := @Nat.zero_add
abbrev bI := @Array.getD_eq_getD_getElem?
abbrev bJ := @List.mem_iff_getElem?
abbrev bK := @List.mem_flatMap
abbrev bL := @Bool.false_eq_true
abbrev bM := @List.mem_cons
abbrev bN := @List.ext_getElem?
abbrev bP := @List.getElem?_of_mem
abbrev bQ := @Bool.or_eq_true
abbrev bS := @List.mem_zipIdx_iff_getElem?
abbrev bT := @List.prefix_append_right_inj
abbrev bU := @List.take_add_one
abbrev bV := @List.append_assoc
abbrev bW := @Nat.add_zero
abbrev bX := @List.eq_of_mem_replicate
abbrev bY := @List.length_set
abbrev bZ := @List.all_eq_false
abbrev cA := @Array.getElem?_eq_none_iff
abbrev cC := @Bool.eq_iff_iff
abbrev cD := @List.length_nil
abbrev cE := @List.nodup_append
abbrev cG := @List.flatMap_cons
abbrev cH := @List.getElem?_drop
abbrev cI := @List.getElem?_append_right
abbrev cJ := @List.eq_nil_of_length_eq_zero
abbrev cK := @List.append_nil
abbrev cL := @List.mem_cons_of_mem
abbrev cM := @List.take_length
abbrev cN := @List.getElem?_zipIdx
abbrev cO := @List.mem_range
abbrev cP := @List.getElem?_set
abbrev cQ := @Bool.true_and
abbrev cR := @List.map_cons
abbrev cS := @Option.map_some
abbrev cT := @List.getElem?_zip_eq_some
abbrev cU := @Int.toNat_natCast
abbrev cV := @List.take_append_drop
abbrev cW := @Array.getElem?_modify
abbrev cX := @List.all_append
abbrev cY := @List.idxOf_lt_length_of_mem
abbrev cZ := @List.mem_singleton
abbrev dA := @Option.getD_some
abbrev dB := @List.getElem?_append
abbrev dC := @Nat.lt_or_ge
abbrev dD := @List.getElem?_eq_none_iff
abbrev dE := @List.getElem?_append_left
abbrev dF := @Array.ext_getElem?
abbrev dG := @List.mem_cons_self
abbrev dH := @Nat.min_eq_left
abbrev dI := @Bool.not_eq_true
abbrev dJ := @List.getElem_mem
abbrev dK := @Option.bind_some
abbrev dL := @List.length_singleton
abbrev dM := @List.prefix_append
abbrev dN := @Array.getElem?_setIfInBounds_ne
abbrev dO := @List.mem_of_mem_take
abbrev dP := @List.map_map
abbrev dQ := @List.getElem_of_mem
abbrev dR := @List.map_congr_left
abbrev dS := @List.not_mem_nil
abbrev dT := @List.length_drop
abbrev dU := @List.length_zipIdx
abbrev dV := @Nat.le_antisymm
abbrev dW := @List.nil_append
abbrev dX := @List.contains_iff_mem
abbrev dY := @Array.getElem?_toList
abbrev dZ := @List.nodup_iff_pairwise_ne
abbrev eA := @Bool.not_eq_true'
abbrev eB := @List.mem_of_find?_eq_some
abbrev eC := @List.getElem?_modify
abbrev eD := @Nat.mul_le_mul_right
abbrev eE := @List.pairwise_iff_getElem
abbrev eF := @Nat.mul_one
abbrev eG := @List.any_eq_true
abbrev eH := @Option.isSome_iff_exists
abbrev eI := @List.nodup_cons
abbrev eJ := @List.length_zip
end
section
open Go.RowKit
def In64 (x:Int):Prop := -9223372036854775808 <= x/\x <= 9223372036854775807
theorem aFS {x:Int} (h:In64 x):wrap64 x=x:=by unfold In64 at h;unfold wrap64;omega
def bin:Nat -> Nat -> Nat
 | _,0=>1
 | 0,_+1=>0
 | n+1,k+1=>bin n k+bin n (k+1)
def sumN:Nat -> (Nat -> Int) -> Int
 | 0,_=>0
 | n+1,f=>sumN n f+f n
def val (L:Nat) (f:Nat -> Int) (n:Nat):Int:=sumN L (fun k=>f k * (bin n k:Nat))
open Go.RowKit Go.ChangeShapes Go.WideShapes Go.ChangeAt
theorem fR (z:Int):IntKind.i64.wrap z=wrap64 z:=by simp [IntKind.wrap,IntKind.signed,IntKind.bits,wrap64];split <;> omega
theorem fS {a b:Bool} (h:a=b):Ending.returned (.bool a) = .returned (.bool b):=by rw [h]
theorem aBE (w:World) (n m:Nat):∃ k,(w.drewN n).drewN m=w.drewN k:=⟨n+m,by simp⟩
structure Row (w:World) (v:Value) (n:Nat) (size:Nat) (cs:List Value):Prop where
 len:cs.length=n * size
 big:n <= 17592186044416
 is:∃ a cap,v = .slice a n cap/\n <= cap/\cap <= maxLen/\(a=none -> n=0/\cap=0) /\
  ∀ ad,a=some ad -> ∀ j u,cs[j]? = some u -> w.cell? (ad.add j)=some u
theorem add_zero (ad:Addr):ad.add 0=ad:=by simp [Addr.add]
theorem sY (b o j:Nat):(⟨b,o,none⟩ : Addr).add j=⟨b,o+j,none⟩:=by
 unfold Addr.add;split <;> simp_all
theorem aBF (ad:Addr) (j:Nat):(ad.add j).block=ad.block:=by unfold Addr.add;split <;> rfl
theorem aFT (ad:Addr) (i j:Nat):(ad.add i).add j=ad.add (i+j):=by
 obtain ⟨b,o,s⟩:=ad
 unfold Addr.add
 by_cases hi:i=0
 ·subst hi;simp
 by_cases hj:j=0
 ·subst hj;simp [hi]
 simp [hi,hj,Nat.add_assoc]
theorem Row.parts {w:World} {v:Value} {n size:Nat} {cs:List Value} (h:Row w v n size cs) :
  ∃ a cap b off,v = .slice a n cap/\n <= cap/\cap <= maxLen/\(0 < cs.length -> a=some ⟨b,off,none⟩/\b < w.heap.size) /\
   ∀ j u,cs[j]? = some u -> w.cell? ⟨b,off+j,none⟩=some u:=by
 obtain ⟨hl,hbig,a,cap,rfl,hnc,hcm,hnone,hc⟩:=h
 cases a with
 | none =>
  have:=(hnone rfl).1
  subst this
  have h0:cs=[]:=List.eq_nil_of_length_eq_zero (by simpa using hl)
  subst h0
  exact ⟨none,cap,0,0,rfl,hnc,hcm,by simp,by simp⟩
 | some ad =>
  obtain ⟨b,o,s⟩:=ad
  cases cs with
  | nil=>exact ⟨some ⟨b,o,s⟩,cap,0,0,rfl,hnc,hcm,by simp,by simp⟩
  | cons c cs =>
   have h0:=hc _ rfl 0 c rfl
   have hs:s=none:=by simpa [Addr.add] using World.cell?_spot h0
   subst hs
   refine ⟨some ⟨b,o,none⟩,cap,b,o,rfl,hnc,hcm,fun _=>⟨rfl, ?_⟩,fun j u hj => ?_⟩
   ·simpa [Addr.add] using World.block_lt_of_cell? w _ h0
   rw [<-sY];exact hc _ rfl j u hj
theorem Row.below {w w' : World} {v:Value} {n size:Nat} {cs:List Value} (h:Row w v n size cs) (hb:Below w.heap.size w w'):Row w' v n size cs:=by
 obtain ⟨hl,hbig,a,cap,rfl,hnc,hcm,hnone,hc⟩:=h
 refine ⟨hl,hbig,a,cap,rfl,hnc,hcm,hnone,fun ad ha j u hj => ?_⟩
 have:=hc ad ha j u hj
 rw [hb.cell (World.block_lt_of_cell? w _ this)]
 exact this
theorem Row.take {w:World} {a:Option Addr} {n cap size k:Nat} {cs:List Value} (h:Row w (.slice a n cap) n size cs) (hk:k <= n):Row w (.slice a k cap) k size (cs.take (k * size)):=by
 obtain ⟨hl,hbig,a',cap',he,hnc,hcm,hnone,hc⟩:=h
 cases he
 refine ⟨?_,by omega,a,cap,rfl,by omega,hcm,fun e=>⟨by have:=(hnone e).1;omega,(hnone e).2⟩,fun ad ha j u hj=>hc ad ha j u ?_⟩
 ·rw [aX,hl]
  exact dH (eD _ hk)
 rw [bE] at hj
 split at hj
 ·exact hj
 cases hj
theorem Row.nil {w:World} {size:Nat}:Row w (.slice none 0 0) 0 size []:=⟨by simp,by omega,none,0,rfl,by omega,by simp [maxLen],fun _=>⟨rfl,rfl⟩,by simp⟩
theorem Row.of_own {w:World} {base:Nat} {e:TypeId} {size:Nat} {v:Value} {n:Nat} {cs:List Value} (h:w.ownsRow base e size v n cs) (hn:n <= 17592186044416):Row w v n size cs:=by
 have h0:=h
 obtain ⟨hl,h1⟩:=h
 rcases h1 with ⟨rfl,rfl⟩ | ⟨g,cap,cur,rfl,hg,hh,hnc,hcm,hcs,htake⟩
 ·have:cs=[]:=List.eq_nil_of_length_eq_zero (by simpa using hl)
  subst this
  exact Row.nil
 refine ⟨hl,hn,_,cap,rfl,hnc,hcm,by simp,fun ad ha j u hj => ?_⟩
 cases ha
 exact h0.cells (g:=g) rfl j u hj
def Ints (w:World) (v:Value) (xs:List Int):Prop:=Row w v xs.length 1 (xs.map (.int .i64)) /\ ∀ x ∈ xs,In64 x
theorem Ints.below {w w' : World} {v:Value} {xs:List Int} (h:Ints w v xs) (hb:Below w.heap.size w w'):Ints w' v xs:=⟨h.1.below hb,h.2⟩
theorem Ints.drewN {w:World} {v:Value} {xs:List Int} (h:Ints w v xs) (n:Nat):Ints (w.drewN n) v xs:=h.below ⟨rfl,rfl,rfl,aF _,fun _ _=>rfl⟩
theorem Ints.nil {w:World}:Ints w (.slice none 0 0) []:=⟨Row.nil,by simp⟩
theorem Ints.le {w:World} {v:Value} {xs:List Int} (h:Ints w v xs):xs.length <= 17592186044416:=h.1.big
theorem Ints.take {w:World} {a:Option Addr} {n cap k:Nat} {xs:List Int} (h:Ints w (.slice a n cap) xs) (hk:k <= xs.length):Ints w (.slice a k cap) (xs.take k):=by
 have hn:n=xs.length:=by obtain ⟨a',c',he,_⟩:=h.1.is;cases he;rfl
 subst hn
 have:=h.1.take hk
 refine ⟨?_,fun x hx=>h.2 x (dO hx)⟩
 have e:(xs.take k).length=k:=by rw [aX];omega
 rw [e,List.map_take]
 simpa using this
theorem Ints.of_own {w:World} {base:Nat} {e:TypeId} {v:Value} {xs:List Int} (h:w.ownsRow base e 1 v xs.length (xs.map (.int .i64))) (hn:xs.length <= 17592186044416) (hx:∀ x ∈ xs,In64 x):Ints w v xs :=
 ⟨Row.of_own h hn,hx⟩
theorem Ints.parts {w:World} {v:Value} {xs:List Int} (h:Ints w v xs) :
  ∃ a cap b off,v = .slice a xs.length cap/\xs.length <= cap/\cap <= 9223372036854775807/\(0 < xs.length -> a=some ⟨b,off,none⟩/\b < w.heap.size) /\
   ∀ j,j < xs.length -> w.cell? ⟨b,off+j,none⟩=some (.int .i64 (xs.getD j 0)):=by
 obtain ⟨a,cap,b,off,hv,h1,h2,h3,h4⟩:=h.1.parts
 refine ⟨a,cap,b,off,hv,h1,by unfold maxLen at h2;omega,by simpa using h3,fun j hj=>h4 j _ ?_⟩
 simp [aH,hj]
theorem Ints.getD {w:World} {v:Value} {xs:List Int} (h:Ints w v xs) (j:Nat):In64 (xs.getD j 0):=by
 rw [aH]
 by_cases hj:j < xs.length
 ·simp only [aB hj,dA]
  exact h.2 _ (dJ hj)
 rw [aW (by omega)]
 exact ⟨by decide,by decide⟩
theorem mD {H:Type} {P:Program} {e:TypeId} {d:DataW H}:∀ {l:List (DataW H)},d ∈ l -> ∀ n ∈ d.weights P e,n ∈ DataW.weightsAll P e l
 | [],h,_,_=>by simp at h
 | x :: l,h,n,hn=>by
  simp only [DataW.weightsAll,aO]
  rcases bM.1 h with rfl | h
  ·exact .inl hn
  exact .inr (mD h n hn)
theorem aC0 {H:Type} {enc:TypeId × Value -> H} {P:Program} {fn:Func} {s:ChangeSpec} {tb:TypeId} {W W' : World} {args:Array Value} {ds gs:List (DataW H)} {before:List MemPlace}
  (hl:laidOutB P=true) (hvars:s.vars=[]) (hread:∀ t ∈ fn.params.toList,P.readableRec t=true/\t < P.types.size)
  (hres:fn.resultTypes = #[tb]) (htb:P.underlying tb=some .bool)
  (hfn:(s.fn H (ds ++ gs)).results=[.lit (.bool true)]/\(s.fn H (ds ++ gs)).args=ds/\(s.fn H (ds ++ gs)).vars=[])
  (hW:DataW.Whole enc P fn.params.toList s.vars false W args.toList ds gs before) (hb:Below W.heap.size W W') :
  s.post enc P fn false true false false W args (.bool true) W':=by
 have hW':=hW
 obtain ⟨p,q,hA,hV,rfl,hfz,hnd⟩:=hW
 have hlt:∀ x ∈ p,x.block < W.heap.size:=fun x hx=>by
  have:=hW'.lt x (aO.2 (.inl hx))
  simpa using this
 rw [hvars] at hV
 obtain ⟨rfl,rfl⟩:=trodVars_none hV
 obtain ⟨e1,e2,e3⟩:=hfn
 refine ⟨ds,[],p ++ [],[],p,[],hW', ?_, ?_, ?_,hb.frame _,fun h=>by cases h⟩
 ·rw [e1,hres]
  exact trodAll_mk1 (shut_bool htb _)
 ·rw [e2]
  clear hfz hnd hW' e1 e2 e3
  generalize fn.params.toList=ts at hA hread ⊢
  generalize args.toList=vs at hA ⊢
  induction ts generalizing vs ds p with
  | nil =>
   cases vs <;> cases ds <;> simp_all [DataW.TrodAll]
  | cons t ts ih =>
   cases vs with
   | nil=>simp [DataW.TrodAll] at hA
   | cons v vs =>
    cases ds with
    | nil=>simp [DataW.TrodAll] at hA
    | cons d ds =>
     obtain ⟨p1,q1,h1,h2,rfl⟩:=hA
     exact ⟨p1,q1,Below.trod hl (hread t (by simp)).1 (hread t (by simp)).2 h1 hb (fun x hx=>hlt x (aO.2 (.inl hx))),
      ih q1 (fun x hx=>hlt x (aO.2 (.inr hx))) (fun t ht=>hread t (cL _ ht)) vs h2,rfl⟩
 ·rw [hvars,e3];exact hV
def kR (w:World) (v:Value) (xss:List (List Int)):Prop :=
 ∃ vs:List Value,vs.length=xss.length/\Row w v xss.length 1 vs /\ ∀ j,j < xss.length -> Ints w (vs.getD j undef) (xss.getD j [])
theorem kR.below {w w' : World} {v:Value} {xss:List (List Int)} (h:kR w v xss) (hb:Below w.heap.size w w'):kR w' v xss:=by
 obtain ⟨vs,h1,h2,h3⟩:=h
 exact ⟨vs,h1,h2.below hb,fun j hj=>(h3 j hj).below hb⟩
theorem kR.take {w:World} {a:Option Addr} {n cap k:Nat} {xss:List (List Int)} (h:kR w (.slice a n cap) xss) (hk:k <= xss.length):kR w (.slice a k cap) (xss.take k):=by
 obtain ⟨vs,h1,h2,h3⟩:=h
 have hn:n=xss.length:=by obtain ⟨a',c',he,_⟩:=h2.is;cases he;rfl
 subst hn
 have hl:(xss.take k).length=k:=by rw [aX];omega
 have:=h2.take hk
 rw [eF] at this
 refine ⟨vs.take k,by rw [aX,hl];omega,by rw [hl];exact this,fun j hj => ?_⟩
 rw [hl] at hj
 have e1:(vs.take k).getD j undef=vs.getD j undef:=by simp [aH,hj]
 have e2:(xss.take k).getD j []=xss.getD j []:=by simp [aH,hj]
 rw [e1,e2]
 exact h3 j (by omega)
theorem kR.parts {w:World} {v:Value} {xss:List (List Int)} (h:kR w v xss) :
  ∃ (vs:List Value) (a:Option Addr) (cap b off:Nat),v = .slice a xss.length cap/\xss.length <= cap/\cap <= 9223372036854775807/\xss.length <= 17592186044416/\(0 < xss.length -> a=some ⟨b,off,none⟩/\b < w.heap.size) /\
   (∀ j,j < xss.length -> w.cell? ⟨b,off+j,none⟩=some (vs.getD j undef)) /\ ∀ j,j < xss.length -> Ints w (vs.getD j undef) (xss.getD j []):=by
 obtain ⟨vs,h1,h2,h3⟩:=h
 obtain ⟨a,cap,b,off,hv,k1,k2,k3,k4⟩:=h2.parts
 refine ⟨vs,a,cap,b,off,hv,k1,by unfold maxLen at k2;omega,h2.big,by rw [<-h1];exact k3,fun j hj=>k4 j _ ?_,h3⟩
 simp [aH,h1,hj]
theorem Ints.form {w:World} {v:Value} {xs:List Int} (h:Ints w v xs):∃ a c,v = .slice a xs.length c:=by
 obtain ⟨a,c,hv,_⟩:=h.1.is
 exact ⟨a,c,hv⟩
theorem sZ (w:World) (r:Option Nat):w.grownBy w r:=⟨rfl,rfl,rfl,aF _,fun _ _ _=>rfl⟩
structure Elem (P:Program) (t e:TypeId) (z:Value) (size bytes:Nat):Prop where
 slice:P.underlying t=some (.slice e)
 info:∃ i,P.info? e=some i/\i.zero=some z/\i.size=size/\i.bytes=bytes
 zcells:z.cells.size=size
 pos:0 < size
theorem pI {P:Program} {t e:TypeId} {z:Value} {size bytes:Nat} (ht:P.underlying t=some (.slice e)) (hi:(P.info? e).map (fun i=>(i.zero,i.size,i.bytes))=some (some z,size,bytes))
  (hz:z.cells.size=size) (hp:0 < size):Elem P t e z size bytes:=by
 obtain ⟨i,h1,h2,h3,h4⟩:=info_parts hi
 exact ⟨ht,⟨i,h1,h2,h3,h4⟩,hz,hp⟩
theorem pJ (xs:List Int):∀ u ∈ xs.map (Value.int .i64),u.oneCell' = true:=by
 intro u hu;obtain ⟨x, -,rfl⟩:=aY.1 hu;rfl
theorem iV {P:Program} {w:World} {t ty e:TypeId} {z:Value} {size bytes:Nat} (he:Elem P t e z size bytes) (base:Nat)
  {v xv:Value} {n m:Nat} {cs news:List Value} (hown:w.ownsRow base e size v n cs) (hr:Row w xv m size news)
  (h1:∀ u ∈ news,u.oneCell' = true) (h63:n+m <= maxLen) (hbytes:(n+m) * bytes <= 140737488355328) (hbase:base <= w.heap.size) :
  ∃ v' w',(Builtin.append_ #[t,t] ty #[v,xv]).run P w = .ok v' w' /\ w'.ownsRow base e size v' (n+m) (cs ++ news)/\w.grownBy w' v.ownBlock/\(v'.ownBlock=v.ownBlock \/ v'.ownBlock=some w.heap.size) /\
   (∀ g j,v.ownBlock=some g -> j < n * size -> w'.cell? ⟨g,j,none⟩=w.cell? ⟨g,j,none⟩)/\(0 < m -> ∃ g cap,v' = .slice (some ⟨g,0,none⟩) (n+m) cap/\g < w'.heap.size):=by
 obtain ⟨ht,⟨i,hi,hz,hsz,hby⟩,hzc,hp⟩:=he
 obtain ⟨hl,hbig,ad,cap,rfl,hnc,hcm,hnone,hc⟩:=hr
 cases ad with
 | none =>
  obtain ⟨rfl,rfl⟩:=hnone rfl
  have h0:news=[]:=List.eq_nil_of_length_eq_zero (by simpa using hl)
  subst h0
  have hrun:=run_append_owned_none (P:=P) (w:=w) base t ty e i size ht hi v n cs hown
  exact ⟨v,w,hrun,by simpa using hown,sZ _ _,.inl rfl,fun _ _ _ _=>rfl,by omega⟩
 | some ad =>
  have hc' : ∀ j u,news[j]? = some u -> w.cell? (ad.add j)=some u:=fun j u hj=>hc ad rfl j u hj
  obtain ⟨v',w',hrun,r1,r2, -⟩:=run_append_own (P:=P) w base t ty e i z size bytes ht hi hz hsz hby hzc hp v n cs hown ad m cap news hl hc' h1 h63 hbytes hbase
  have hex:(v'.ownBlock=v.ownBlock \/ v'.ownBlock=some w.heap.size)/\(∀ g j,v.ownBlock=some g -> j < n * size -> w'.cell? ⟨g,j,none⟩=w.cell? ⟨g,j,none⟩):=by
   subst hsz
   subst hby
   have hsmall:n+m <= 9223372036854775807:=by simp only [maxLen] at h63;omega
   rcases hown.2 with ⟨rfl,rfl⟩ | ⟨g,cap2,cur,rfl,hbg,hg,hnc2,hcm2,hcs,htake⟩
   ·refine ⟨?_,fun g j h=>by simp [Value.ownBlock] at h⟩
    by_cases hm:m=0
    ·subst hm
     have hn0:news=[]:=List.eq_nil_of_length_eq_zero (by simpa using hl)
     subst hn0
     have hr2:(Builtin.append_ #[t,t] ty #[.slice none 0 0,.slice (some ad) 0 cap]).run P w = .ok (.slice none 0 0) w:=by
      simp [Builtin.append_,run_underlying ht,sizeOf,typeInfo,hi,Builtin.lenOf,Builtin.firstCells,loadCells,loadCellsFrom]
     rw [hrun] at hr2
     injection hr2 with e1 e2
     exact .inl (by rw [e1])
    have hr2:=run_append_nil (P:=P) w t ty e i z ht hi hz ad m cap news hl hc' (by omega) (by omega) (by have hb:=hbytes;simp only [bH] at hb;omega)
    rw [hrun] at hr2
    injection hr2 with e1 e2
    exact .inr (by rw [e1];rfl)
   by_cases hroom:n+m <= cap2
   ·have hfit:n * i.size+news.length <= cur.size:=by rw [hl,hcs, <-Nat.add_mul];exact eD _ hroom
    have hr2:=run_append_room (P:=P) w t ty e i ht hi g n cap2 cur hg ad m cap news hl hc' h1 hroom hfit
    rw [hrun] at hr2
    injection hr2 with e1 e2
    refine ⟨.inl (by rw [e1];rfl),fun g' j hg' hj => ?_⟩
    simp only [Value.ownBlock,Option.some.injEq] at hg'
    subst hg'
    rw [e2]
    have hh:=setRow_heap w g cur (cur.toList.take (n * i.size) ++ news ++ cur.toList.drop (n * i.size+news.length)).toArray e _ hg
    have hjc:j < cur.size:=by omega
    simp only [World.cell?,hg,hh]
    simp [dB,aX,dH (show n * i.size <= cur.size by omega),hj,show j < n * i.size+news.length by omega,bE]
   have holds:∀ j u,cs[j]? = some u -> w.cell? ((⟨g,0,none⟩ : Addr).add j)=some u:=hown.cells (g:=g) rfl
   have hr2:=run_append_grow (P:=P) w t ty e i z ht hi hz ⟨g,0,none⟩ n cap2 cs hown.1 holds ad m cap news hl hc' (by omega) (by omega) (growslice_fits (by omega) hbytes)
   rw [hrun] at hr2
   injection hr2 with e1 e2
   refine ⟨.inr (by rw [e1];rfl),fun g' j hg' hj => ?_⟩
   simp only [Value.ownBlock,Option.some.injEq] at hg'
   subst hg'
   rw [e2,World.cell?_alloc_past _ _ _ (by simpa using (Array.getElem?_eq_some_iff.1 hg).1)]
   rfl
  refine ⟨v',w',hrun,r1,r2,hex.1,hex.2,fun hm => ?_⟩
  rcases r1.2 with ⟨-,h0⟩ | ⟨g,cap3,cur,rfl, -,hh, -⟩
  ·omega
  exact ⟨g,cap3,rfl,(aS.1 hh).1⟩
theorem kE {P:Program} {w:World} {ops:Array Oper} {rest:List Oper} {o:Oper} {a:Act} {Q:Exit -> Act -> World -> Prop} (hgd:o.guard=none) (s x:Operand) (t e:TypeId)
  (ho:o.op = .call { callee:=.builtin .append,args:=#[s,x],argTypes:=#[t,t] }) {z:Value} {size bytes:Nat} (he:Elem P t e z size bytes) (base:Nat)
  {v xv:Value} {n m:Nat} {cs news:List Value} (hs:a.eval s=v) (hx:a.eval x=xv) (hown:w.ownsRow base e size v n cs) (hr:Row w xv m size news)
  (h1:∀ u ∈ news,u.oneCell' = true) (h63:n+m <= maxLen) (hbytes:(n+m) * bytes <= 140737488355328) (hbase:base <= w.heap.size)
  (h:∀ v' w',w'.ownsRow base e size v' (n+m) (cs ++ news) -> w.grownBy w' v.ownBlock -> (v'.ownBlock=v.ownBlock \/ v'.ownBlock=some w.heap.size) -> wpList P ops Q rest (a.put o.dst v') w'):wpList P ops Q (o :: rest) a w:=by
 obtain ⟨v',w',hrun,r1,r2,r3, -, -⟩:=iV (ty:=o.type) he base hown hr h1 h63 hbytes hbase
 refine wpList_plain hgd fun K hK => ?_
 unfold Oper.wp execOp
 simp only [ho,resolve,invoke,builtin,Sem.run_bind,Sem.run_pure,Result.andThen_ok,List.map_toArray,cR,List.map_nil,hs,hx,hrun]
 exact hK _ _ (h v' w' r1 r2 r3)
theorem aBG (w:World) (e:TypeId):(w.alloc (.cells #[] e)).ownsRow w.heap.size e 1 (.slice (some ⟨w.heap.size,0,none⟩) 0 0) 0 [] :=
 World.ownsRow_made _ _ 0 (aF _) (by decide) rfl
end
end Go.Proofs.YtcmflfkpeodicaaGreat
