/- What the claim needs,part 22. -/
import Derived.Test.YtgmhnepmkaonaaaGreatPB17
import Derived.Test.YtgmhnepmkaonaaaGreatPB21
namespace Go.Proofs.YtgmhnepmkaonaaaGreat
set_option linter.unusedSimpArgs false
set_option linter.unusedVariables false
open Go.RowKit
def putAll (A:Array Value):Nat -> List Value -> Array Value
 | _,[]=>A
 | o,v :: r=>putAll (A.setIfInBounds o v) (o+1) r
theorem putAll_size:∀ (vs:List Value) (A:Array Value) (o:Nat),(putAll A o vs).size=A.size
 | [],_,_=>rfl
 | v :: r,A,o=>by rw [putAll,putAll_size r];simp
theorem putAll_at:∀ (vs:List Value) (A:Array Value) (o k:Nat),(putAll A o vs)[k]? = if k < A.size then (if o <= k/\k < o+vs.length then vs[k - o]? else A[k]?) else none
 | [],A,o,k=>by
  rw [putAll]
  by_cases h:k < A.size
  ·rw [if_pos h,if_neg (by rw [List.length_nil];omega)]
  ·rw [if_neg h,Array.getElem?_eq_none (by omega)]
 | v :: r,A,o,k=>by
  rw [putAll,putAll_at r,Array.size_setIfInBounds]
  by_cases h:k < A.size
  ·rw [if_pos h,if_pos h]
   by_cases e:k=o
   ·subst e
    rw [if_neg (by omega),if_pos (by simp),Nat.sub_self]
    simp [h]
   ·rw [Array.getElem?_setIfInBounds_ne (Ne.symm e)]
    by_cases h2:o+1 <= k/\k < o+1+r.length
    ·rw [if_pos h2,if_pos (by rw [List.length_cons];omega),show k - o=(k - (o+1))+1 by omega,List.getElem?_cons_succ]
    ·rw [if_neg h2,if_neg (by rw [List.length_cons];omega)]
  ·rw [if_neg h,if_neg h]
theorem putAll_in {vs:List Value} {A:Array Value} {o k:Nat} (h1:k < A.size) (h2:o <= k) (h3:k < o+vs.length):(putAll A o vs)[k]? = vs[k - o]?:=by rw [putAll_at,if_pos h1,if_pos ⟨h2,h3⟩]
theorem putAll_out {vs:List Value} {A:Array Value} {o k:Nat} (h:k < o \/ o+vs.length <= k):(putAll A o vs)[k]? = A[k]?:=by
 rw [putAll_at]
 by_cases h1:k < A.size
 ·rw [if_pos h1,if_neg (by omega)]
 ·rw [if_neg h1,Array.getElem?_eq_none (by omega)]
theorem heap_setCells (b:Nat) {e:TypeId} {z:Nat × Nat}:∀ (vs:List Value) (o:Nat) (w:World) (A:Array Value),w.heap[b]? = some (.cells A e z) -> (w.setCells b o vs).heap[b]? = some (.cells (putAll A o vs) e z)
 | [],_,_,_,h=>h
 | v :: r,o,w,A,h=>by
  rw [World.setCells,putAll]
  refine heap_setCells b r (o+1) _ _ ?_
  have hlt:=(Array.getElem?_eq_some_iff.1 h).1
  have hk:=(Array.getElem?_eq_some_iff.1 h).2
  show (w.heap.modify b _)[b]? = _
  rw [Array.getElem?_eq_getElem (by rw [Array.size_modify];exact hlt),Array.getElem_modify_self,hk]
  rfl
theorem off_setCells (b:Nat):∀ (vs:List Value) (o:Nat) (w:World),Off (Foot.one b) w (w.setCells b o vs)
 | [],_,w=>Off.refl _ _
 | v :: r,o,w=>by
  rw [World.setCells]
  exact (Off.set w ⟨b,o,none⟩ v).trans (off_setCells b r (o+1) _)
def insI (xs:List Int) (i:Nat) (x:Int):List Int:=xs.take i ++ x :: xs.drop i
theorem insI_len {xs:List Int} {i:Nat} {x:Int} (h:i <= xs.length):(insI xs i x).length=xs.length+1:=by
 unfold insI
 rw [List.length_append,List.length_take,List.length_cons,List.length_drop]
 omega
theorem oints_row {W:World} {g n cap:Nat} {A:Array Value} {ys:List Int} (hh:W.heap[g]? = some (.cells A 3 (0,0))) (hn:ys.length=n) (hb:n <= 17592186044416) (hc:n <= cap) (hm:cap <= maxLen) (hs:A.size=cap) (h64:∀ y ∈ ys,In64 y)
  (hA:∀ (k:Nat) (y:Int),ys[k]? = some y -> A[k]? = some (Value.int .i64 y)):OInts W (Foot.one g) (.slice (some ⟨g,0,none⟩) n cap) ys:=by
 subst hn
 have hlt:=(Array.getElem?_eq_some_iff.1 hh).1
 refine ⟨⟨by simp,hb,fun k hk=>by cases hk;exact hlt,.inr ⟨g,cap,A,rfl,rfl,hh,hc,hm,by rw [hs,Nat.mul_one], ?_⟩⟩,h64⟩
 apply List.ext_getElem?
 intro k
 rw [List.getElem?_take,Nat.mul_one,List.getElem?_map]
 by_cases hk:k < ys.length
 ·rw [if_pos hk,List.getElem?_eq_getElem hk,Option.map_some,Array.getElem?_toList]
  exact hA k _ (List.getElem?_eq_getElem hk)
 ·rw [if_neg hk,List.getElem?_eq_none (by omega)];rfl
def InsR (w:World) (S:Foot) (xs:List Int) (i:Nat) (x:Int) (e:Ending) (w' : World):Prop :=
 ∃ g cap,e = .returned (.slice (some ⟨g,0,none⟩) (xs.length+1) cap)/\OInts w' (Foot.one g) (.slice (some ⟨g,0,none⟩) (xs.length+1) cap) (insI xs i x)/\(S g \/ w.heap.size <= g)/\Off S w w'
theorem insI_at {xs:List Int} {i k:Nat} {x y:Int} (hi:i <= xs.length) (h:(insI xs i x)[k]? = some y):(k < i/\xs[k]? = some y) \/ (k=i/\y=x) \/ (i < k/\xs[k - 1]? = some y):=by
 unfold insI at h
 by_cases h1:k < i
 ·rw [List.getElem?_append_left (by rw [List.length_take];omega),List.getElem?_take,if_pos h1] at h
  exact .inl ⟨h1,h⟩
 ·rw [List.getElem?_append_right (by rw [List.length_take];omega),List.length_take,Nat.min_eq_left hi] at h
  by_cases h2:k=i
  ·subst h2
   rw [Nat.sub_self] at h
   simp at h
   exact .inr (.inl ⟨rfl,h.symm⟩)
  ·rw [show k - i=(k - i - 1)+1 by omega,List.getElem?_cons_succ,List.getElem?_drop,show i+(k - i - 1)=k - 1 by omega] at h
   exact .inr (.inr ⟨by omega,h⟩)
theorem insI_64 {xs:List Int} {i:Nat} {x:Int} (h:∀ y ∈ xs,In64 y) (hx:In64 x):∀ y ∈ insI xs i x,In64 y:=fun y hy=>by
 unfold insI at hy
 rcases List.mem_append.1 hy with h1 | h1
 ·exact h y (List.mem_of_mem_take h1)
 ·rcases List.mem_cons.1 h1 with rfl | h1
  ·exact hx
  ·exact h y (List.mem_of_mem_drop h1)
theorem oneCell_ints (xs:List Int):∀ v ∈ xs.map (Value.int .i64),v.oneCell' = true:=oneCell_int xs
theorem insertOwn {w:World} {v:Value} {S:Foot} {xs:List Int} {i B:Nat} {x:Int} (h:OInts w S v xs) (hi:i <= xs.length) (hx:In64 x) (hl:xs.length <= 1000000) (hB:w.heap[B]? = some (.cells #[.int .i64 x] 3 (0,0))) (hSB:¬ S B) :
  Calls Tryz.prog 150 #[v,.int .i64 i,.slice (some ⟨B,0,none⟩) 1 1] w (InsR w S xs i x):=by
 have hbl:=(Array.getElem?_eq_some_iff.1 hB).1
 have hvs:∀ j v,[Value.int .i64 x][j]? = some v -> w.cell? ⟨B,0+j,none⟩=some v:=fun j v hj=>by
  simp only [World.cell?,hB,Nat.zero_add]
  simpa using hj
 have h1v:∀ v ∈ [Value.int .i64 x],v.oneCell' = true:=by simp [Value.oneCell']
 have hlx:(xs.map (Value.int .i64)).length=xs.length:=List.length_map ..
 have h64:=insI_64 (i:=i) h.2 hx
 have hil:(insI xs i x).length=xs.length+1:=insI_len hi
 have hbyt:∀ n:Nat,n=xs.length+1 -> n * 8 <= 140737488355328:=fun n h=>by omega
 rcases h.1.form with ⟨h0,a,rfl⟩ | ⟨g,cap,cur,rfl,hg,hh,k1,k2,k3,k4⟩
 ·have e:xs=[]:=List.eq_nil_of_length_eq_zero h0
  subst e
  obtain rfl:i=0:=by simpa using hi
  have hfin:∀ {e:Ending} {w' : World},(e = .returned (.slice (some ⟨w.heap.size,0,none⟩) (0+1) (grownCap w (0+1) 0 3)) /\
    w' = w.drew.alloc (.cells (([] ++ [Value.int .i64 x]).toArray ++ Builtin.zeroCells (Value.int .i64 0).cells (grownCap w (0+1) 0 3 - (0+1))) 3)) -> InsR w S [] 0 x e w':=fun {e w'} ⟨h1,h2⟩=>by
   obtain ⟨G,hG⟩ : ∃ G,G=grownCap w (0+1) 0 3:=⟨_,rfl⟩
   have hG1:0+1 <= G:=by rw [hG];exact grownCap_ge w _ _ _
   have hG2:G <= maxLen:=by rw [hG];exact grownCap_le_maxLen w _ _ _ (by unfold maxLen;omega)
   rw [<-hG] at h1 h2
   refine ⟨w.heap.size,G,h1, ?_,.inr (Nat.le_refl _),by rw [h2];exact (Off.of_below (Below.refl _ w).drew _).trans (Off.alloc _ _ _)⟩
   refine oints_row (A:=([] ++ [Value.int .i64 x]).toArray ++ Builtin.zeroCells (Value.int .i64 0).cells (G - (0+1))) ?_ (by simpa using hil) (by simp) (by simpa using hG1) hG2 (by simp [Builtin.zeroCells,Value.cells];omega) h64 fun k y hk => ?_
   ·rw [h2]
    show (w.heap.push _)[w.heap.size]? = _
    rw [Array.getElem?_push_size]
   ·have hk0:k=0:=by have:=(List.getElem?_eq_some_iff.1 hk).1;rw [hil] at this;simp at this;omega
    subst hk0
    have hy:x=y:=by simpa [insI] using hk
    subst hy
    rw [Array.getElem?_append_left (by simp)]
    rfl
  cases a with
  | none =>
   have hc:=Any2.slices_Insert_int_end_grow insertLays none 0 0 B 0 1 1 [] [.int .i64 x] w (by omega) (Nat.le_refl _) (by omega) (by omega) rfl rfl (fun _=>rfl) (fun _ h=>by cases h) hvs h1v
   exact hc.mono fun e w' hq=>hfin hq
  | some ad =>
   have hc:=Any2.slices_Insert_int_end_grow insertLays (some ad) 0 0 B 0 1 1 [] [.int .i64 x] w (by omega) (Nat.le_refl _) (by omega) (by omega) rfl rfl (fun h=>by cases h) (fun a _ j v hj=>by simp at hj) hvs h1v
   exact hc.mono fun e w' hq=>hfin hq
 ·have hgl:=h.1.lt g hg
  have hne:B ≠ g:=fun e=>hSB (by rw [e];exact hg)
  have hcur:∀ j,j < xs.length -> cur[j]? = (xs.map (Value.int .i64))[j]?:=fun j hj=>by
   rw [<-k4,List.getElem?_take,if_pos (by omega),Array.getElem?_toList]
  have hcell:∀ j,w.cell? ⟨g,0+j,none⟩=cur[j]?:=fun j=>by simp [World.cell?,hh]
  have hfz:∀ o,w.frozen? ⟨g,o,none⟩=false:=fun o=>by simp [World.frozen?,hh]
  have hcs:∀ j v,(xs.map (Value.int .i64))[j]? = some v -> w.cell? ⟨g,0+j,none⟩=some v:=fun j v hj=>by
   have hjl:=(List.getElem?_eq_some_iff.1 hj).1
   rw [hcell,hcur j (by omega),hj]
  have hOff:∀ {w'},Off (Foot.one g) w w' -> Off S w w':=fun ho=>ho.mono fun k _ hk=>by cases hk;exact hg
  by_cases hroom:xs.length+1 <= cap
  ·have hsp:∀ j,j < xs.length+1 -> (w.cell? ⟨g,0+j,none⟩).isSome=true:=fun j hj=>by
    rw [hcell,Array.getElem?_eq_getElem (by omega)];rfl
   by_cases hin:i < xs.length
   ·have hc:=Any2.slices_Insert_int_shift insertLays g 0 xs.length cap i B 0 1 1 (xs.map (.int .i64)) [.int .i64 x] w hin (by omega) hroom (by unfold maxLen at k2;omega) hne hlx rfl hcs hsp (fun j _=>hfz _) hvs (oneCell_ints xs) h1v
     3 3 1 cur.size (by simp [World.shape?,hB]) (by simp [World.shape?,hh]) (by omega) (by simp [World.frozen?,hB]) (by simp [World.frozen?,hB])
    refine hc.mono fun e w' ⟨h1,h2⟩=>⟨g,cap,h1, ?_,.inl hg, ?_⟩
    ·have hd:w.drew.heap[g]? = some (.cells cur 3 (0,0)):=hh
     have q:=heap_setCells g [Value.int .i64 x] (0+i) _ _ (heap_setCells g ((xs.map (Value.int .i64)).drop i) (0+(i+1)) _ _ hd)
     rw [<-h2] at q
     refine oints_row q hil (by omega) hroom k2 (by rw [putAll_size,putAll_size,k3,Nat.mul_one]) h64 fun k y hk => ?_
     have hkl:=(List.getElem?_eq_some_iff.1 hk).1
     rw [hil] at hkl
     have hd1:((xs.map (Value.int .i64)).drop i).length=xs.length - i:=by rw [List.length_drop,hlx]
     rcases insI_at hi hk with ⟨e1,e2⟩ | ⟨e1,e2⟩ | ⟨e1,e2⟩
     ·rw [putAll_out (.inl (by omega)),putAll_out (.inl (by omega)),hcur k (by omega),List.getElem?_map,e2];rfl
     ·subst e1 e2
      rw [putAll_in (by rw [putAll_size];omega) (by omega) (by simp),Nat.zero_add,Nat.sub_self];rfl
     ·rw [putAll_out (.inr (by simp;omega)),putAll_in (by omega) (by omega) (by rw [hd1];omega),List.getElem?_drop,show i+(k - (0+(i+1)))=k - 1 by omega,List.getElem?_map,e2];rfl
    ·rw [h2]
     exact hOff ((Off.of_below (Below.refl _ w).drew _).trans ((off_setCells g _ _ _).trans (off_setCells g _ _ _)))
   ·obtain rfl:i=xs.length:=by omega
    have hc:=Any2.slices_Insert_int_end_room insertLays g 0 xs.length cap B 0 1 1 [.int .i64 x] w (by omega) hroom (by unfold maxLen at k2;omega) rfl (fun j hj=>by rw [Nat.zero_add];have:=hsp (xs.length+j) (by omega);rwa [Nat.zero_add] at this) (fun j _=>hfz _) hvs h1v
    refine hc.mono fun e w' ⟨h1,h2⟩=>⟨g,cap,h1, ?_,.inl hg, ?_⟩
    ·have q:=heap_setCells g [Value.int .i64 x] (0+xs.length) _ _ hh
     rw [<-h2] at q
     refine oints_row q hil (by omega) hroom k2 (by rw [putAll_size,k3,Nat.mul_one]) h64 fun k y hk => ?_
     have hkl:=(List.getElem?_eq_some_iff.1 hk).1
     rw [hil] at hkl
     rcases insI_at (Nat.le_refl _) hk with ⟨e1,e2⟩ | ⟨e1,e2⟩ | ⟨e1,e2⟩
     ·rw [putAll_out (.inl (by omega)),hcur k (by omega),List.getElem?_map,e2];rfl
     ·subst e1 e2
      rw [putAll_in (by omega) (by omega) (by simp),Nat.zero_add,Nat.sub_self];rfl
     ·omega
    ·rw [h2]
     exact hOff (off_setCells g _ _ _)
  ·have hfresh:∀ {A:Array Value} {n:Nat},(w.drew.alloc (.cells A 3)).heap[w.heap.size]? = some (.cells A 3 (0,0)):=fun {A n}=>by
    show (w.heap.push _)[w.heap.size]? = _
    rw [Array.getElem?_push_size]
   obtain ⟨G,hG⟩ : ∃ G,G=grownCap w (xs.length+1) cap 3:=⟨_,rfl⟩
   have hG1:xs.length+1 <= G:=by rw [hG];exact grownCap_ge w _ _ _
   have hG2:G <= maxLen:=by rw [hG];exact grownCap_le_maxLen w _ _ _ (by unfold maxLen;omega)
   by_cases hin:i < xs.length
   ·have hc:=Any2.slices_Insert_int_grow insertLays g 0 xs.length cap i B 0 1 1 (xs.map (.int .i64)) [.int .i64 x] w hin (by omega) k1 (by omega) (by omega) hlx rfl hcs hvs (oneCell_ints xs) h1v
    refine hc.mono fun e w' ⟨h1,h2⟩ => ?_
    have h1' : e = .returned (.slice (some ⟨w.heap.size,0,none⟩) (xs.length+1) G):=by rw [hG];exact h1
    refine ⟨w.heap.size,G,h1', ?_,.inr (Nat.le_refl _), ?_⟩
    ·obtain ⟨A,hA⟩ : ∃ A:Array Value,A=((xs.map (Value.int .i64)).take i).toArray ++ Builtin.zeroCells (Value.int .i64 0).cells (xs.length+1 - i) ++ Builtin.zeroCells (Value.int .i64 0).cells (G - (xs.length+1)):=⟨_,rfl⟩
     have hAs:A.size=G:=by rw [hA];simp [Builtin.zeroCells,Value.cells];omega
     have hd:(((w.alloc (.cells A 3)).drew).heap)[w.heap.size]? = some (.cells A 3 (0,0)):=by
      show (w.heap.push _)[w.heap.size]? = _
      rw [Array.getElem?_push_size]
     have q1:=heap_setCells w.heap.size [Value.int .i64 x] i _ _ hd
     have q1' : (((w.alloc (.cells A 3)).drew.setCells w.heap.size i [Value.int .i64 x]).drew).heap[w.heap.size]? = some (.cells (putAll A i [Value.int .i64 x]) 3 (0,0)):=q1
     have q:=heap_setCells w.heap.size ((xs.map (Value.int .i64)).drop i) (i+1) _ _ q1'
     have q2:w'.heap[w.heap.size]? = some (.cells (putAll (putAll A i [Value.int .i64 x]) (i+1) ((xs.map (Value.int .i64)).drop i)) 3 (0,0)):=by
      rw [h2]
      rw [hA,hG] at q
      rw [hA,hG]
      exact q
     refine oints_row q2 hil (by omega) hG1 hG2 (by rw [putAll_size,putAll_size,hAs]) h64 fun k y hk => ?_
     have hkl:=(List.getElem?_eq_some_iff.1 hk).1
     rw [hil] at hkl
     have hd1:((xs.map (Value.int .i64)).drop i).length=xs.length - i:=by rw [List.length_drop,hlx]
     rcases insI_at hi hk with ⟨e1,e2⟩ | ⟨e1,e2⟩ | ⟨e1,e2⟩
     ·have hx2:A[k]? = some (Value.int .i64 y):=by
       rw [hA,Array.append_assoc,Array.getElem?_append_left (by simp;omega)]
       simp [e1,e2]
      rw [putAll_out (.inl (by omega)),putAll_out (.inl (by omega)),hx2]
     ·subst e1 e2
      rw [putAll_out (.inl (by omega)),putAll_in (by omega) (by omega) (by simp),Nat.sub_self];rfl
     ·rw [putAll_in (by rw [putAll_size];omega) (by omega) (by rw [hd1];omega),List.getElem?_drop,show i+(k - (i+1))=k - 1 by omega,List.getElem?_map,e2];rfl
    ·rw [h2]
     have hz:∀ q,Foot.one w.heap.size q -> S q \/ w.heap.size <= q:=fun q hq=>by cases hq;exact .inr (Nat.le_refl _)
     exact Off.grow ((Off.grow ((Off.alloc S w _).trans (Off.of_below (Below.refl _ _).drew S)) (off_setCells w.heap.size _ _ _) hz).trans (Off.of_below (Below.refl _ _).drew S)) (off_setCells w.heap.size _ _ _) hz
   ·obtain rfl:i=xs.length:=by omega
    have hc:=Any2.slices_Insert_int_end_grow insertLays (some ⟨g,0,none⟩) xs.length cap B 0 1 1 (xs.map (.int .i64)) [.int .i64 x] w (by omega) k1 (by omega) (by omega) hlx rfl (fun h=>by cases h) (fun a ha j v hj=>by cases ha;rw [Addr.add_lit];exact hcs j v hj) hvs h1v
    refine hc.mono fun e w' ⟨h1,h2⟩ => ?_
    have h1' : e = .returned (.slice (some ⟨w.heap.size,0,none⟩) (xs.length+1) G):=by rw [hG];exact h1
    refine ⟨w.heap.size,G,h1', ?_,.inr (Nat.le_refl _),by rw [h2];exact (Off.of_below (Below.refl _ w).drew _).trans (Off.alloc _ _ _)⟩
    have q:w'.heap[w.heap.size]? = some (.cells ((xs.map (Value.int .i64) ++ [Value.int .i64 x]).toArray ++ Builtin.zeroCells (Value.int .i64 0).cells (G - (xs.length+1))) 3 (0,0)):=by
     rw [h2,hG]
     show (w.heap.push _)[w.heap.size]? = _
     rw [Array.getElem?_push_size]
     rfl
    refine oints_row q hil (by omega) hG1 hG2 (by simp [Builtin.zeroCells,Value.cells];omega) h64 fun k y hk => ?_
    have hkl:=(List.getElem?_eq_some_iff.1 hk).1
    rw [hil] at hkl
    rw [Array.getElem?_append_left (by simp;omega)]
    rcases insI_at (Nat.le_refl _) hk with ⟨e1,e2⟩ | ⟨e1,e2⟩ | ⟨e1,e2⟩
    ·rw [List.getElem?_toArray,List.getElem?_append_left (by rw [hlx];exact e1),List.getElem?_map,e2];rfl
    ·subst e1 e2
     rw [List.getElem?_toArray,List.getElem?_append_right (by rw [hlx];exact Nat.le_refl _),hlx,Nat.sub_self];rfl
    ·omega
end Go.Proofs.YtgmhnepmkaonaaaGreat
namespace Go.Proofs.YtgmhnepmkaonaaaGreat
set_option linter.unusedSimpArgs false
set_option linter.unusedVariables false
open Go.RowKit
theorem wpList_iapps {w:World} {ops:Array Oper} {rest:List Oper} {o:Oper} {a:Act} {Q:Exit -> Act -> World -> Prop} (hgd:o.guard=none) (s x:Operand)
  (ho:o.op = .call { callee:=.builtin .append,args:=#[s,x],argTypes:=#[22,22] }) {v xv:Value} {S:Foot} {xs ys:List Int} {n m:Nat} (hn:xs.length=n) (hm:ys.length=m) (hs:a.eval s=v) (hx:a.eval x=xv)
  (H:OInts w S v xs) (hr:Ints w xv ys) (hlen:n+m <= 17592186044416)
  (hK:∀ b c w' G',OInts w' G' (.slice b (n+m) c) (xs ++ ys) -> (∀ k,G' k -> S k \/ w.heap.size <= k) -> Off S w w' -> wpList Tryz.prog ops Q rest (a.put o.dst (.slice b (n+m) c)) w'):wpList Tryz.prog ops Q (o :: rest) a w:=by
 subst hn hm
 refine wpList_oapp (P:=Tryz.prog) hgd s x 22 3 ho elInt hs hx H.1 hr.1 (oneCell_int _) (by omega) (by omega) fun v' w' G' r1 r2 r3 => ?_
 have hO:OInts w' G' v' (xs ++ ys):=⟨by rw [List.length_append,List.map_append];exact r1,fun z hz=>by
  rcases List.mem_append.1 hz with h | h
  ·exact H.2 z h
  ·exact hr.2 z h⟩
 obtain ⟨b,c,rfl⟩:=hO.ints.form
 rw [List.length_append] at hO ⊢
 exact hK b c w' G' hO r2 r3
theorem OInts.take {W:World} {S:Foot} {a:Option Addr} {n c k:Nat} {xs:List Int} (h:OInts W S (.slice a n c) xs) (hn:xs.length=n) (hk:k <= n):OInts W S (.slice a k c) (xs.take k):=by
 subst hn
 have hl:(xs.take k).length=k:=by rw [List.length_take];omega
 refine ⟨⟨by simp,by rw [hl];have:=h.1.big;omega,h.1.lt, ?_⟩,fun y hy=>h.2 y (List.mem_of_mem_take hy)⟩
 rw [hl]
 rcases h.1.form with ⟨h0,a',e⟩ | ⟨g,cap,cur,e,hg,hh,k1,k2,k3,k4⟩
 ·injection e with e1 e2 e3
  subst e3
  exact .inl ⟨by omega,a,by rw [show k=0 by omega]⟩
 ·injection e with e1 e2 e3
  subst e1 e3
  refine .inr ⟨g,c,cur,rfl,hg,hh,by omega,k2,k3, ?_⟩
  rw [Nat.mul_one] at k4 ⊢
  rw [List.map_take, <-k4,List.take_take,Nat.min_eq_left hk]
theorem ints_cells {W:World} {v:Value} {xs:List Int} (h:Ints W v xs) (hp:0 < xs.length):∃ (b o c:Nat),v = .slice (some ⟨b,o,none⟩) xs.length c/\b < W.heap.size/\xs.length <= c/\c <= 9223372036854775807 /\ ∀ i,i < xs.length -> W.cell? ⟨b,o+i,none⟩=some (.int .i64 (xs.getD i 0)):=by
 obtain ⟨a,c,b,o,rfl,h1,h2,ha,hc⟩:=h.parts
 obtain ⟨rfl,hb⟩:=ha hp
 exact ⟨b,o,c,rfl,hb,h1,by first | exact h2 | (unfold maxLen at h2;omega),hc⟩
structure Pile (W:World) (bp:Nat) (S:Foot) (xs:List Int):Prop where
 ex:∃ a c,Box W bp #[.slice a xs.length c]/\OInts W S (.slice a xs.length c) xs
 free:¬ S bp
theorem Pile.lt {W:World} {bp:Nat} {S:Foot} {xs:List Int} (h:Pile W bp S xs):bp < W.heap.size:=by obtain ⟨a,c,hb,_⟩:=h.ex;exact hb.lt
theorem Pile.off {W W' : World} {bp:Nat} {S D:Foot} {xs:List Int} (h:Pile W bp S xs) (ho:Off D W W') (h1:¬ D bp) (h2:S.off D):Pile W' bp S xs:=by
 obtain ⟨a,c,hb,hi⟩:=h.ex
 exact ⟨⟨a,c,hb.off ho h1,hi.off ho h2⟩,h.free⟩
def pileD (bp:Nat) (S:Foot):Foot:=fun k=>k=bp \/ S k
def PutR (bp:Nat) (S:Foot) (zs:List Int) (w:World) (e:Ending) (w' : World):Prop := ∃ S',e = .returned (.tuple #[])/\Pile w' bp S' zs/\(∀ k,S' k -> S k \/ w.heap.size <= k)/\Off (pileD bp S) w w'
set_option maxHeartbeats 1600000 in
theorem pilePut {w:World} {bp:Nat} {S:Foot} {xs ys:List Int} {u:Value} (h:Pile w bp S xs) (hu:Ints w u ys) (hl:xs.length+ys.length <= 17592186044416) :
  Calls Tryz.prog 147 #[.pointer (some ⟨bp,0,none⟩),u] w (PutR bp S (xs ++ ys) w):=by
 obtain ⟨a,c,hb,hi⟩:=h.ex
 have HFR:=Lib.hid h.free
 have HI:=Lib.hid hi
 have HU:=Lib.hid hu
 have HB:=Lib.hid hb
 obtain ⟨n,hn⟩ : ∃ n,n=xs.length:=⟨_,rfl⟩
 obtain ⟨m,hm⟩ : ∃ m,m=ys.length:=⟨_,rfl⟩
 have HN:=Lib.hid hn.symm
 have HM:=Lib.hid hm.symm
 rw [<-hn] at hb HI hl HB
 rw [<-hm] at hl
 obtain ⟨lb,cb,fb⟩:=hb
 clear h hi hu hn hm
 go_enter Tryz.func147,Tryz.ntmps147
 go_wp2_with (at_builtin;go_loud (refine wpList_iapps rfl _ _ rfl HN.out HM.out rfl rfl HI.out HU.out hl ?_);intro b c' w2 G' hO hG hof;obtain ⟨l2,c2,f2⟩:=HB.out.off hof HFR.out)
 have hB2:=HB.out.off hof HFR.out
 have HO:=Lib.hid hO
 have HG:=Lib.hid hG
 have HOF:=Lib.hid hof
 have HB2:=Lib.hid hB2
 clear hO hG hof hB2 lb cb fb l2 c2 f2
 have hgb:¬ G' bp:=fun h=>(HG.out bp h).elim HFR.out (fun h=>by have:=HB.out.lt;omega)
 refine bodyPost_end (v:=.tuple #[]) (by simp [results,Tryz.results147,go_sem, *]) rfl ⟨G',rfl,⟨⟨b,c', ?_, ?_⟩,hgb⟩,HG.out, ?_⟩
 ·rw [List.length_append,HN.out,HM.out]
  simpa using HB2.out.set 0 (.slice b (n+m) c')
 ·rw [List.length_append,HN.out,HM.out]
  exact HO.out.off (Off.set w2 ⟨bp,0,none⟩ _) (fun k hk e=>hgb (by cases e;exact hk))
 ·exact (HOF.out.mono fun k _ hk=>.inr hk).trans ((Off.set w2 ⟨bp,0,none⟩ _).mono fun k _ hk=>.inl hk)
def TakeR (bp:Nat) (S:Foot) (xs:List Int) (w:World) (e:Ending) (w' : World):Prop :=
 (xs=[]/\e = .returned (.tuple #[.int .i64 0,.bool false])/\Below w.heap.size w w') \/ ∃ ys y,xs=ys ++ [y]/\e = .returned (.tuple #[.int .i64 y,.bool true])/\Pile w' bp S ys/\Off (Foot.one bp) w w'
set_option maxHeartbeats 1600000 in
theorem pileTake {w:World} {bp:Nat} {S:Foot} {xs:List Int} (h:Pile w bp S xs):Calls Tryz.prog 148 #[.pointer (some ⟨bp,0,none⟩)] w (TakeR bp S xs w):=by
 obtain ⟨a,c,hb,hi⟩:=h.ex
 have HFR:=Lib.hid h.free
 have HI:=Lib.hid hi
 have B0:=Lib.hid hb
 have HW:Hid (Below w.heap.size w w):=Lib.hid (Below.refl _ _)
 by_cases h0:xs=[]
 ·subst h0
  have HX:Hid (([] : List Int).length=0):=Lib.hid rfl
  obtain ⟨lB0,cB0,fB0⟩:=hb
  clear h hi
  simp only [List.length_nil] at cB0 B0 HI
  go_enter Tryz.func148,Tryz.ntmps148
  go_wp2
  go_ret2
  exact .inl ⟨rfl,rfl,Below.refl _ _⟩
 ·obtain ⟨ys,y,hxs⟩ : ∃ ys y,xs=ys ++ [y]:=⟨xs.dropLast,xs.getLast h0,(List.dropLast_concat_getLast h0).symm⟩
  obtain ⟨n,hn⟩ : ∃ n,n=ys.length:=⟨_,rfl⟩
  have hl:xs.length=n+1:=by rw [hxs,List.length_append,hn];rfl
  have HN:=Lib.hid hn
  have HXS:=Lib.hid hxs
  rw [hl] at hb HI B0
  obtain ⟨g,of_,c',he,hgl,hcl,hcm,hgx⟩:=ints_cells hi.ints (by omega)
  rw [hl] at he hcl
  injection he with e1 e2 e3
  subst e1 e3
  have hlast:=hgx n (by omega)
  have hly:xs.getD n 0=y:=by rw [hxs,hn,List.getD_eq_getElem?_getD,List.getElem?_append_right (Nat.le_refl _),Nat.sub_self];rfl
  rw [hly] at hlast
  have hle:=hi.ints.le
  obtain ⟨lB0,cB0,fB0⟩:=hb
  rw [hl] at hle
  have hsub:IntKind.i64.wrap (n:Int)=(n:Int):=by rw [i64_wrap];rw [wrap_in (by unfold In64;omega)]
  have hlt1:(n:Int) < (n:Int)+1:=by omega
  have hcn:n <= c:=by omega
  clear h hi hn hl hgx hly hxs h0 e2
  go_enter Tryz.func148,Tryz.ntmps148
  go_upto_region 4 with (fail)



  refine wp_region_grow 19 (fun _=>.plain) (by kernel_rfl) (by kernel_rfl) ?_ (fun ν => ?_)
  ·exact fun _=>trivial
  simp only [List.take_succ_cons,List.take_zero,List.drop_succ_cons,List.drop_zero]
  iterate 19 (refine Grow.val (v := ?_) rfl rfl (fun wg hbg hdg => ?_) ?_;rotate_left;(focus ((obtain ⟨lg0,cg0,fg0⟩:=B0.out.later hbg);(have hl2:=(hbg.cell (p:=⟨g,of_+n,none⟩) hgl).trans hlast);clear hbg hdg;first | (go_simp;done) | (go_simp;with_reducible rfl)));simp only [Act.put,List.setIfInBounds_toArray,List.set_cons_zero,List.set_cons_succ])
  intro wg hb hf hap
  clear hap
  clear lB0 cB0 fB0
  replace B0:=Lib.hid (B0.out.later hb)
  replace HW:=Lib.hid (HW.out.trans (hb.mono HW.out.size))
  clear hb
  obtain ⟨lB0,cB0,fB0⟩:=B0.out
  clear hf hlast hsub
  go_upto_region 5 with (fail)
  clear lB0 cB0 fB0
  have HY:Hid (Pile (wg.setCell ⟨bp,0,none⟩ (.slice (some ⟨g,of_,none⟩) n c)) bp S ys):=Lib.hid (by
   refine ⟨⟨some ⟨g,of_,none⟩,c, ?_, ?_⟩,HFR.out⟩
   ·rw [<-HN.out];simpa using B0.out.set 0 (.slice (some ⟨g,of_,none⟩) n c)
   ·have h9:=(HI.out.off (Off.of_below HW.out Foot.none) (fun _ _ h=>h)).take (k:=n) (by rw [HXS.out,List.length_append, <-HN.out];rfl) (by omega)
    rw [HXS.out,List.take_append_of_le_length (by rw [<-HN.out];exact Nat.le_refl _),HN.out,List.take_length] at h9
    rw [HN.out]
    exact h9.off (Off.set _ _ _) (fun k hk e=>HFR.out (by cases e;exact hk)))
  have HZ:Hid (Off (Foot.one bp) w (wg.setCell ⟨bp,0,none⟩ (.slice (some ⟨g,of_,none⟩) n c))):=Lib.hid ((Off.of_below HW.out _).trans (Off.set wg ⟨bp,0,none⟩ _))
  generalize wg.setCell ⟨bp,0,none⟩ (.slice (some ⟨g,of_,none⟩) n c)=w4 at *
  go_wp2
  go_ret2
  exact .inr ⟨ys,y,HXS.out,rfl,HY.out,HZ.out⟩
end Go.Proofs.YtgmhnepmkaonaaaGreat
