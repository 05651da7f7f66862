/- What the claim needs,part 35. -/
import Derived.Test.YtgmhnepmkaonaaaGreatPB34
import Derived.Test.YtgmhnepmkaonaaaGreatPB21
import Derived.WalkSmall
namespace Go.Proofs.YtgmhnepmkaonaaaGreat
set_option linter.unusedSimpArgs false
set_option linter.unusedVariables false
open Go.RowKit
theorem Off.frozen2 {S:Foot} {W W' : World} (h:Off S W W') {p:Addr} (hl:p.block < W.heap.size) (hn:¬ S p.block):W'.frozen? p=W.frozen? p:=World.frozen?_of_block (w:=W) (h.block p.block hl hn)
theorem Off.cell2 {S:Foot} {W W' : World} (h:Off S W W') {p:Addr} (hl:p.block < W.heap.size) (hn:¬ S p.block):W'.cell? p=W.cell? p:=World.cell?_of_block (w:=W) (h.block p.block hl hn)
def OLis (W:World) (S:Foot) (cs:List Value) (xs:List Int):Prop := ∃ v,cs=[v]/\OInts W S v xs
theorem OLis.nice:Nice OLis where
 keep:=fun ⟨v,e,h⟩ hk=>⟨v,e,h.keep hk⟩
 lt:=fun ⟨v,e,h⟩=>h.lt
 wide:=fun ⟨v,e,h⟩ hs hl=>⟨v,e,h.wide hs hl⟩
abbrev OLists:=OSl OLis 22 1
theorem elLis:Elem Tryz.prog 42 22 (.slice none 0 0) 1 24:=elem_of Tryz.underlying42 (by kernel_rfl) rfl (by omega)
theorem OLists.open {W:World} {S:Foot} {v:Value} {xs:List (List Int)} (h:OLists W S v xs) {n:Nat} {a:List Int} (hn:xs[n]? = some a) :
  ∃ (ga cap c:Nat) (ad:Option Addr),v = .slice (some ⟨ga,0,none⟩) xs.length cap/\ga < W.heap.size/\S ga/\W.cell? ⟨ga,n,none⟩=some (.slice ad a.length c)/\Ints W (.slice ad a.length c) a /\
   ∀ i x,a[i]? = some x -> ∃ g,ad=some ⟨g,0,none⟩/\S g/\g < W.heap.size/\g ≠ ga/\W.cell? ⟨g,i,none⟩=some (.int .i64 x)/\(∀ o,W.frozen? ⟨g,o,none⟩=false) /\
    ∀ y,In64 y -> OLists (W.setCell ⟨g,i,none⟩ (.int .i64 y)) S v (xs.set n (a.set i y)):=by
 obtain ⟨cs,G,F,hp⟩:=h
 have hnl:=(List.getElem?_eq_some_iff.1 hn).1
 obtain ⟨ga,cap,hv,hG, -, -,hgl,hcell,hfr⟩:=hp.row.addr (by omega)
 obtain ⟨u,hu,ho⟩:=hp.el n a hn
 obtain ⟨ad,c,rfl⟩:=ho.ints.form
 have hc0:cs[n]? = some (.slice ad a.length c):=by
  have h1:=chunk_at (cs:=cs) (size:=1) (j:=n) (i:=0) (by omega)
  rw [hu] at h1
  simpa using h1.symm
 refine ⟨ga,cap,c,ad,hv,hgl,hp.inG _ hG,hcell n _ hc0,ho.ints,fun i x hi => ?_⟩
 obtain ⟨g,cap2,hg,hFg,hgl2,hci,hfi,hset⟩:=ho.addr hi
 have e:ad=some ⟨g,0,none⟩:=by injection hg
 have hne:g ≠ ga:=fun e2=>hp.free n hnl g hFg (by rw [e2];exact hG)
 refine ⟨g,e,hp.inF n g hnl hFg,hgl2,hne,hci,hfi,fun y hy => ?_⟩
 have hoff:=Off.set W ⟨g,i,none⟩ (.int .i64 y)
 refine ⟨cs,G,_,hp.put OLis.nice hn (a.set i y) (Fj:=F n) (hoff.mono fun k _ hk=>by cases hk;exact .inr hFg) (hp.row.off hoff fun k h1 h2=>by cases h2;exact hp.free n hnl _ hFg h1) (fun _ _ _=>rfl) ⟨_,hu,hset y hy⟩ (fun k hk=>.inl hk) S (fun k hk=>hk) (fun k hk=>hp.inF n k hnl hk) (fun k hk=>by simpa [World.setCell] using hp.lt k hk)⟩
structure MachP (base bs fuel:Nat) (W:World) (bm:Nat) (s:RunS) (o:OverD) (ov av vv cv:Value) (mv:Nat) (m:List (Int × Value)) (F:Nat -> Foot):Prop where
 box:Box W bm #[.int .i64 o.how,.int .i64 o.value,.int .i64 o.trap,ov,av,.int .i64 s.steps,.int .i64 s.checks,vv,.pointer (some ⟨bs,0,none⟩),.int .i64 fuel,.map (some mv),cv]
 b0:∀ k,F 0 k ↔ k=bm
 out:OInts W (F 1) ov s.out
 arr:OLists W (F 2) av s.arrays
 vis:OInts W (F 3) vv (natI s.visits)
 mp:IMap W mv m
 m4:∀ k,F 4 k ↔ k=mv
 val:∀ id,(mget m id).getD (.int .i64 0) = .int .i64 (s.vals id)
 cel:OInts W (F 5) cv s.cells
 v64:∀ id,In64 (s.vals id)
 apart:∀ i j,i ≠ j -> (F i).off (F j)
 six:∀ i k,F i k -> i < 6
 base:∀ i k,F i k -> base <= k
theorem MachP.lt {base bs fuel:Nat} {W:World} {bm:Nat} {s:RunS} {o:OverD} {ov av vv cv:Value} {mv:Nat} {m:List (Int × Value)} {F:Nat -> Foot} (h:MachP base bs fuel W bm s o ov av vv cv mv m F) {i k:Nat} (hk:F i k):k < W.heap.size:=by
 have h6:=h.six i k hk
 rcases i with _ | _ | _ | _ | _ | _ | i
 ·rw [(h.b0 k).1 hk];exact h.box.lt
 ·exact h.out.lt k hk
 ·exact h.arr.lt k hk
 ·exact h.vis.lt k hk
 ·rw [(h.m4 k).1 hk];exact h.mp.lt
 ·exact h.cel.lt k hk
 ·omega
theorem MachP.keep {base bs fuel:Nat} {W W' : World} {bm:Nat} {s:RunS} {o:OverD} {ov av vv cv:Value} {mv:Nat} {m:List (Int × Value)} {F:Nat -> Foot} (h:MachP base bs fuel W bm s o ov av vv cv mv m F) {D:Foot} (ho:Off D W W') (hD:∀ i k,F i k -> ¬ D k):MachP base bs fuel W' bm s o ov av vv cv mv m F :=
 ⟨h.box.off ho (hD 0 _ ((h.b0 _).2 rfl)),h.b0,h.out.off ho (hD 1),h.arr.off OLis.nice ho (hD 2),h.vis.off ho (hD 3),h.mp.keep (ho.block _ h.mp.lt (hD 4 _ ((h.m4 _).2 rfl))),h.m4,h.val,h.cel.off ho (hD 5),h.v64,h.apart,h.six,h.base⟩
theorem MachP.later {base bs fuel:Nat} {W W' : World} {bm:Nat} {s:RunS} {o:OverD} {ov av vv cv:Value} {mv:Nat} {m:List (Int × Value)} {F:Nat -> Foot} (h:MachP base bs fuel W bm s o ov av vv cv mv m F) (hb:Below W.heap.size W W'):MachP base bs fuel W' bm s o ov av vv cv mv m F :=
 h.keep (Off.of_below hb Foot.none) fun _ _ _ h=>h
theorem MachP.put {base bs fuel:Nat} {W:World} {bm:Nat} {s s' : RunS} {o o' : OverD} {ov av vv cv ov' av' vv' cv' : Value} {mv:Nat} {m:List (Int × Value)} {F:Nat -> Foot} (h:MachP base bs fuel W bm s o ov av vv cv mv m F) (i:Nat) (v:Value)
  (hb:#[Value.int .i64 o.how,.int .i64 o.value,.int .i64 o.trap,ov,av,.int .i64 s.steps,.int .i64 s.checks,vv,.pointer (some ⟨bs,0,none⟩),.int .i64 fuel,.map (some mv),cv].setIfInBounds i v = #[.int .i64 o'.how,.int .i64 o'.value,.int .i64 o'.trap,ov',av',.int .i64 s'.steps,.int .i64 s'.checks,vv',.pointer (some ⟨bs,0,none⟩),.int .i64 fuel,.map (some mv),cv'])
  (ho:OInts W (F 1) ov' s'.out) (ha:OLists W (F 2) av' s'.arrays) (hv:OInts W (F 3) vv' (natI s'.visits)) (hc:OInts W (F 5) cv' s'.cells) (hs:s'.vals=s.vals):MachP base bs fuel (W.setCell ⟨bm,i,none⟩ v) bm s' o' ov' av' vv' cv' mv m F:=by
 have hoff:=Off.set W ⟨bm,i,none⟩ v
 have hne:∀ j k,j ≠ 0 -> F j k -> ¬ Foot.one bm k:=fun j k hj hk e=>h.apart j 0 hj k hk ((h.b0 k).2 e)
 have hbx:=h.box.set i v
 rw [hb] at hbx
 exact ⟨hbx,h.b0,ho.off hoff (fun k=>hne 1 k (by omega)),ha.off OLis.nice hoff (fun k=>hne 2 k (by omega)),hv.off hoff (fun k=>hne 3 k (by omega)),h.mp.keep (hoff.block _ h.mp.lt (hne 4 _ (by omega) ((h.m4 _).2 rfl))),h.m4,by rw [hs];exact h.val,hc.off hoff (fun k=>hne 5 k (by omega)),by rw [hs];exact h.v64,h.apart,h.six,h.base⟩
def newF (F:Nat -> Foot) (i:Nat) (G:Foot) (j:Nat):Foot:=if j=i then G else F j
theorem newF_at (F:Nat -> Foot) (i:Nat) (G:Foot):newF F i G i=G:=by unfold newF;rw [if_pos rfl]
theorem newF_ne (F:Nat -> Foot) (i:Nat) (G:Foot) {j:Nat} (h:j ≠ i):newF F i G j=F j:=by unfold newF;rw [if_neg h]
theorem newF_apart {F:Nat -> Foot} {i:Nat} {G:Foot} {n:Nat} (h:∀ i j,i ≠ j -> (F i).off (F j)) (hl:∀ i k,F i k -> k < n) (hG:∀ k,G k -> F i k \/ n <= k):∀ a b,a ≠ b -> (newF F i G a).off (newF F i G b):=by
 intro a b hab k h1 h2
 unfold newF at h1 h2
 by_cases ha:a=i
 ·rw [if_pos ha] at h1
  rw [if_neg (fun e=>hab (ha.trans e.symm))] at h2
  rcases hG k h1 with h3 | h3
  ·exact h i b (fun e=>hab (ha.trans e)) k h3 h2
  ·have:=hl b k h2;omega
 ·rw [if_neg ha] at h1
  by_cases hb:b=i
  ·rw [if_pos hb] at h2
   rcases hG k h2 with h3 | h3
   ·exact h a i ha k h1 h3
   ·have:=hl a k h1;omega
  ·rw [if_neg hb] at h2
   exact h a b hab k h1 h2
theorem MachP.turn {base bs fuel:Nat} {W W' : World} {bm:Nat} {s s' : RunS} {o:OverD} {ov av vv cv:Value} {mv:Nat} {m m' : List (Int × Value)} {F:Nat -> Foot} (h:MachP base bs fuel W bm s o ov av vv cv mv m F) (i:Nat) (hi:i < 6) (h0:i ≠ 0) {G:Foot} (ho:Off (F i) W W') (hG:∀ k,G k -> F i k \/ W.heap.size <= k) (hB:base <= W.heap.size) (h4:i=4 -> ∀ k,G k ↔ k=mv)
  (hst:s'.steps=s.steps/\s'.checks=s.checks)
  (h1:if i=1 then OInts W' G ov s'.out else s'.out=s.out) (h2:if i=2 then OLists W' G av s'.arrays else s'.arrays=s.arrays) (h3:if i=3 then OInts W' G vv (natI s'.visits) else s'.visits=s.visits) (h5:if i=5 then OInts W' G cv s'.cells else s'.cells=s.cells)
  (hm:if i=4 then IMap W' mv m' /\ (∀ id,(mget m' id).getD (.int .i64 0) = .int .i64 (s'.vals id))/\(∀ id,In64 (s'.vals id)) else m' = m/\s'.vals=s.vals):MachP base bs fuel W' bm s' o ov av vv cv mv m' (newF F i G):=by
 have hne:∀ j,j ≠ i -> (F j).off (F i):=fun j hj=>h.apart j i hj
 refine ⟨by rw [hst.1,hst.2];exact h.box.off ho (fun e=>h.apart 0 i (Ne.symm h0) _ ((h.b0 _).2 rfl) e),by rw [newF_ne F i G (Ne.symm h0)];exact h.b0, ?_, ?_, ?_, ?_, ?_, ?_, ?_, ?_,newF_apart h.apart (fun _ _ hk=>h.lt hk) hG, ?_, ?_⟩
 ·by_cases e:i=1
  ·rw [if_pos e] at h1;subst e;rw [newF_at];exact h1
  ·rw [if_neg e] at h1;rw [newF_ne F i G (Ne.symm e),h1];exact h.out.off ho (hne 1 (Ne.symm e))
 ·by_cases e:i=2
  ·rw [if_pos e] at h2;subst e;rw [newF_at];exact h2
  ·rw [if_neg e] at h2;rw [newF_ne F i G (Ne.symm e),h2];exact h.arr.off OLis.nice ho (hne 2 (Ne.symm e))
 ·by_cases e:i=3
  ·rw [if_pos e] at h3;subst e;rw [newF_at];exact h3
  ·rw [if_neg e] at h3;rw [newF_ne F i G (Ne.symm e),h3];exact h.vis.off ho (hne 3 (Ne.symm e))
 ·by_cases e:i=4
  ·rw [if_pos e] at hm;exact hm.1
  ·rw [if_neg e] at hm;rw [hm.1];exact h.mp.keep (ho.block _ h.mp.lt (fun hk=>h.apart 4 i (Ne.symm e) _ ((h.m4 _).2 rfl) hk))
 ·by_cases e:i=4
  ·subst e;rw [newF_at];exact h4 rfl
  ·rw [newF_ne F i G (Ne.symm e)];exact h.m4
 ·by_cases e:i=4
  ·rw [if_pos e] at hm;exact hm.2.1
  ·rw [if_neg e] at hm;rw [hm.1,hm.2];exact h.val
 ·by_cases e:i=5
  ·rw [if_pos e] at h5;subst e;rw [newF_at];exact h5
  ·rw [if_neg e] at h5;rw [newF_ne F i G (Ne.symm e),h5];exact h.cel.off ho (hne 5 (Ne.symm e))
 ·by_cases e:i=4
  ·rw [if_pos e] at hm;exact hm.2.2
  ·rw [if_neg e] at hm;rw [hm.2];exact h.v64
 ·intro j k hk
  unfold newF at hk
  by_cases e:j=i
  ·omega
  ·rw [if_neg e] at hk;exact h.six j k hk
 ·intro j k hk
  unfold newF at hk
  by_cases e:j=i
  ·rw [if_pos e] at hk
   rcases hG k hk with h9 | h9
   ·exact h.base i k h9
   ·omega
  ·rw [if_neg e] at hk;exact h.base j k hk
def Mach (base bs fuel:Nat) (W:World) (bm:Nat) (D:Foot) (s:RunS):Prop := ∃ (ov av vv cv:Value) (mv:Nat) (m:List (Int × Value)) (F:Nat -> Foot),MachP base bs fuel W bm s ⟨0,0,0⟩ ov av vv cv mv m F /\ ∀ k,D k ↔ ∃ i,F i k
theorem MachP.mach {base bs fuel:Nat} {W:World} {bm:Nat} {s:RunS} {ov av vv cv:Value} {mv:Nat} {m:List (Int × Value)} {F:Nat -> Foot} (h:MachP base bs fuel W bm s ⟨0,0,0⟩ ov av vv cv mv m F):Mach base bs fuel W bm (fun k => ∃ i,F i k) s:=⟨ov,av,vv,cv,mv,m,F,h,fun _=>Iff.rfl⟩
theorem Mach.lt {base bs fuel:Nat} {W:World} {bm:Nat} {D:Foot} {s:RunS} (h:Mach base bs fuel W bm D s):∀ k,D k -> k < W.heap.size:=fun k hk=>by
 obtain ⟨_,_,_,_,_,_,F,hp,hD⟩:=h
 obtain ⟨i,hi⟩:=(hD k).1 hk
 exact hp.lt hi
theorem Mach.base {base bs fuel:Nat} {W:World} {bm:Nat} {D:Foot} {s:RunS} (h:Mach base bs fuel W bm D s):∀ k,D k -> base <= k:=fun k hk=>by
 obtain ⟨_,_,_,_,_,_,F,hp,hD⟩:=h
 obtain ⟨i,hi⟩:=(hD k).1 hk
 exact hp.base i k hi
theorem Mach.keep {base bs fuel:Nat} {W W' : World} {bm:Nat} {D:Foot} {s:RunS} (h:Mach base bs fuel W bm D s) {E:Foot} (ho:Off E W W') (hE:D.off E):Mach base bs fuel W' bm D s:=by
 obtain ⟨ov,av,vv,cv,mv,m,F,hp,hD⟩:=h
 exact ⟨ov,av,vv,cv,mv,m,F,hp.keep ho (fun i k hk=>hE k ((hD k).2 ⟨i,hk⟩)),hD⟩
theorem Mach.later {base bs fuel:Nat} {W W' : World} {bm:Nat} {D:Foot} {s:RunS} (h:Mach base bs fuel W bm D s) (hb:Below W.heap.size W W'):Mach base bs fuel W' bm D s:=h.keep (Off.of_below hb Foot.none) fun _ _ h=>h
theorem Mach.alloc {base bs fuel:Nat} {W:World} {bm:Nat} {D:Foot} {s:RunS} (h:Mach base bs fuel W bm D s) (o:Obj):Mach base bs fuel (W.alloc o) bm D s:=h.later ((Below.refl _ _).alloc (Nat.le_refl _) o)
def MOk (base bs fuel:Nat) (w:World) (bm:Nat) (D:Foot) (s' : RunS) (w' : World):Prop := ∃ D',Mach base bs fuel w' bm D' s' /\ Off D w w' /\ ∀ k,D' k -> D k \/ w.heap.size <= k
theorem MOk.of {base bs fuel:Nat} {W W' : World} {bm:Nat} {s' : RunS} {ov' av' vv' cv' : Value} {mv' : Nat} {m' : List (Int × Value)} {F F' : Nat -> Foot} {D:Foot} (hD:∀ k,D k ↔ ∃ i,F i k)
  (h' : MachP base bs fuel W' bm s' ⟨0,0,0⟩ ov' av' vv' cv' mv' m' F') (ho:Off (fun k => ∃ i,F i k) W W') (hF:∀ i k,F' i k -> F i k \/ W.heap.size <= k):MOk base bs fuel W bm D s' W' :=
 ⟨_,h'.mach,ho.mono (fun k _ hk=>(hD k).2 hk),fun k ⟨i,hi⟩=>(hF i k hi).imp (fun h=>(hD k).2 ⟨i,h⟩) id⟩
theorem MOk.still {base bs fuel:Nat} {W W' : World} {bm:Nat} {s:RunS} {ov av vv cv:Value} {mv:Nat} {m:List (Int × Value)} {F:Nat -> Foot} {D:Foot} (hD:∀ k,D k ↔ ∃ i,F i k)
  (h:MachP base bs fuel W bm s ⟨0,0,0⟩ ov av vv cv mv m F) (hb:Below W.heap.size W W'):MOk base bs fuel W bm D s W':=MOk.of hD (h.later hb) (Off.of_below hb _) fun _ _ hk=>.inl hk
theorem MOk.same {base bs fuel:Nat} {w:World} {bm:Nat} {D:Foot} {s:RunS} (h:Mach base bs fuel w bm D s) {w' : World} (hb:Below w.heap.size w w'):MOk base bs fuel w bm D s w':=⟨D,h.later hb,Off.of_below hb D,fun _ h=>.inl h⟩
theorem MOk.trans {base bs fuel:Nat} {w w1 w2:World} {bm:Nat} {D D1:Foot} {s:RunS} (h1:Off D w w1) (hD:∀ k,D1 k -> D k \/ w.heap.size <= k) (h2:MOk base bs fuel w1 bm D1 s w2):MOk base bs fuel w bm D s w2:=by
 obtain ⟨D2,m2,o2,d2⟩:=h2
 refine ⟨D2,m2,Off.grow h1 o2 hD,fun k hk => ?_⟩
 rcases d2 k hk with h | h
 ·exact hD k h
 ·exact .inr (Nat.le_trans h1.size h)
def overE (o:OverD):Ending:=.panicked [{ v:=.iface 166 (.agg #[.int .i64 o.how,.int .i64 o.value,.int .i64 o.trap]),recovered:=false }]
end Go.Proofs.YtgmhnepmkaonaaaGreat
namespace Go.Proofs.YtgmhnepmkaonaaaGreat
set_option linter.unusedSimpArgs false
set_option linter.unusedVariables false
open Go.RowKit
theorem endC {w:World} (e:Int):Calls Tryz.prog 173 #[.int .i64 e] w fun r w'=>r=overE ⟨e,0,0⟩/\Below w.heap.size w w':=by
 go_enter Tryz.func173,Tryz.ntmps173
 go_wp2
 exact ⟨rfl,rfl,Below.refl _ _⟩
theorem trapC {w:World} (e:Int):Calls Tryz.prog 144 #[.int .i64 e] w fun r w'=>r=overE ⟨2,0,e⟩/\Below w.heap.size w w':=by
 go_enter Tryz.func144,Tryz.ntmps144
 go_wp2
 exact ⟨rfl,rfl,Below.refl _ _⟩
def ResR (base bs fuel:Nat) (w:World) (bm:Nat) (D:Foot) {α : Type} (val : α -> Value) (r:Res α) (e:Ending) (w' : World):Prop:=match r with
 | .go a s'=>e = .returned (val a)/\MOk base bs fuel w bm D s' w'
 | .over o s'=>e=overE o/\MOk base bs fuel w bm D s' w'
def unitV (_:Unit):Value:=.tuple #[]
def intV (n:Int):Value:=.int .i64 n
set_option maxHeartbeats 1600000 in
theorem stepC {base bs fuel bm:Nat} {w:World} {D:Foot} {s:RunS} (hM:Mach base bs fuel w bm D s) (hfu:fuel <= 200000) (hst:s.steps <= fuel) :
  Calls Tryz.prog 142 #[.pointer (some ⟨bm,0,none⟩)] w (ResR base bs fuel w bm D unitV (stepS fuel s)):=by
 obtain ⟨ov,av,vv,cv,mv,m,F,hP,hD⟩:=hM
 have HP:=Lib.hid hP
 have HD:=Lib.hid hD
 have BM:=Lib.hid hP.box
 clear hP hD
 by_cases hs:s.steps=fuel
 ·have HR:Hid (stepS fuel s = .over ⟨3,0,0⟩ s):=Lib.hid (by unfold stepS;rw [if_pos hs])
  have ht:(((s.steps:Nat):Int) == (fuel:Int))=true:=by rw [hs];simp
  rw [HR.out]
  clear hs hst hfu
  go_enter Tryz.func142,Tryz.ntmps142
  go_upto_region 0 with (fail)
  obtain ⟨lm,cm,fm⟩:=BM.out
  go_quiet (fail)
  clear cm fm ht
  have hbq:=below_drewN (Below.refl w.heap.size w) nq
  go_wp2_with fail
  refine (endC 3).mono ?_
  rintro e w1 ⟨rfl,hb⟩
  unfold overE
  go_wp2
  exact ⟨rfl,rfl,MOk.still HD.out HP.out (hbq.trans (hb.mono hbq.size))⟩
 ·have HR:Hid (stepS fuel s = .go () { s with steps:=s.steps+1 }):=Lib.hid (by unfold stepS;rw [if_neg hs])
  have ht:(((s.steps:Nat):Int) == (fuel:Int))=false:=by
   simp only [beq_eq_false_iff_ne,ne_eq]
   omega
  have hadd:IntKind.i64.wrap (((s.steps:Nat):Int)+1)=((s.steps+1:Nat):Int):=by rw [i64_add ⟨by omega,by omega⟩];omega
  rw [HR.out]
  clear hs
  go_enter Tryz.func142,Tryz.ntmps142
  go_upto_region 0 with (fail)
  obtain ⟨lm,cm,fm⟩:=BM.out
  go_quiet (fail)
  clear cm fm ht
  have hbq:=below_drewN (Below.refl w.heap.size w) nq
  have HP1:=Lib.hid (HP.out.later hbq)
  generalize w.drewN nq=w1 at *
  obtain ⟨lm1,cm1,fm1⟩:=HP1.out.box
  go_wp2
  clear cm1 fm1
  refine bodyPost_end (v:=.tuple #[]) (by simp [results,Tryz.results142,go_sem, *]) rfl ⟨rfl, ?_⟩
  refine MOk.of HD.out (HP1.out.put (s' := { s with steps:=s.steps+1 }) (o':=⟨0,0,0⟩) 5 (.int .i64 ((s.steps+1:Nat):Int)) rfl HP1.out.out HP1.out.arr HP1.out.vis HP1.out.cel rfl) ?_ (fun i k hk=>.inl hk)
  exact (Off.of_below hbq _).trans ((Off.set w1 ⟨bm,5,none⟩ _).mono fun k _ hk=>⟨0,(HP1.out.b0 k).2 hk⟩)
def lookB (look:Bool) (s:RunS):RunS:=if look then { s with checks:=s.checks+1 } else s
def wildB (look:Bool):OverD:=if look then ⟨2,0, -2⟩ else ⟨5,0,0⟩
def MAt (w:World) (bm n g:Nat):Prop := ∃ (ga len cap al c:Nat),w.cell? ⟨bm,4,none⟩=some (.slice (some ⟨ga,0,none⟩) len cap)/\w.cell? ⟨ga,n,none⟩=some (.slice (some ⟨g,0,none⟩) al c)
theorem MAt.one {w:World} {bm n g g' : Nat} (h:MAt w bm n g) (h' : MAt w bm n g'):g=g':=by
 obtain ⟨ga,len,cap,al,c,h1,h2⟩:=h
 obtain ⟨ga',len',cap',al',c',h3,h4⟩:=h'
 rw [h1] at h3
 obtain rfl:ga=ga':=by injection h3 with h3;injection h3 with q1;injection q1 with q1;injection q1
 rw [h2] at h4
 injection h4 with h4
 injection h4 with q1
 injection q1 with q1
 injection q1
theorem MAt.below {w w' : World} {bm n g:Nat} (h:MAt w bm n g) (hb:Below w.heap.size w w'):MAt w' bm n g:=by
 obtain ⟨ga,len,cap,al,c,h1,h2⟩:=h
 exact ⟨ga,len,cap,al,c,(hb.cell (World.block_lt_of_cell? w _ h1)).trans h1,(hb.cell (World.block_lt_of_cell? w _ h2)).trans h2⟩
def ElemR (base bs fuel:Nat) (w:World) (bm:Nat) (D:Foot) (n:Nat) (a:List Int) (i:Int) (look:Bool) (s:RunS) (e:Ending) (w' : World):Prop :=
 ((i < 0 \/ (a.length:Int) <= i)/\e=overE (wildB look)/\MOk base bs fuel w bm D (lookB look s) w') \/
 ∃ (j g:Nat) (x:Int),i=j/\a[j]? = some x/\e = .returned (.pointer (some ⟨g,j,none⟩))/\MAt w bm n g/\D g/\MOk base bs fuel w bm D (lookB look s) w' /\ w'.cell? ⟨g,j,none⟩=some (.int .i64 x)/\w'.frozen? ⟨g,j,none⟩=false /\
  ∀ W y,Below w'.heap.size w' W -> In64 y -> MOk base bs fuel w bm D { lookB look s with arrays:=s.arrays.set n (a.set j y) } (W.setCell ⟨g,j,none⟩ (.int .i64 y))
set_option maxHeartbeats 3200000 in
theorem elemC {base bs fuel bm:Nat} {w:World} {D:Foot} {s:RunS} (hM:Mach base bs fuel w bm D s) (hB:base <= w.heap.size) (hck:s.checks <= 200000) {n:Nat} {a:List Int} (hn:s.arrays[n]? = some a) (ha:a.length <= 4096) (i:Int) (hi:In64 i) (look:Bool) :
  Calls Tryz.prog 174 #[.pointer (some ⟨bm,0,none⟩),.int .i64 n,.int .i64 i,.bool look] w (ElemR base bs fuel w bm D n a i look s):=by
 obtain ⟨ov,av,vv,cv,mv,m,F,hP,hD⟩:=hM
 have HP:=Lib.hid hP
 have HD:=Lib.hid hD
 have BM:=Lib.hid hP.box
 obtain ⟨ga,cap,c,ad,rfl,hgal,hSga,hcell,hints,hop⟩:=hP.arr.open hn
 have hnl:=(List.getElem?_eq_some_iff.1 hn).1
 have hgm:ga ≠ bm:=fun e=>hP.apart 2 0 (by omega) ga hSga ((hP.b0 ga).2 e)
 have HOP:=Lib.hid hop
 have HN:=Lib.hid hn
 clear hP hD hop hints hSga
 obtain ⟨al,hal⟩ : ∃ al,al=a.length:=⟨_,rfl⟩
 obtain ⟨nl,hnl2⟩ : ∃ nl,nl=s.arrays.length:=⟨_,rfl⟩
 have HAL:=Lib.hid hal
 rw [<-hal] at hcell ha
 rw [<-hnl2] at HP BM hnl
 clear hal hn hnl2
 have hadd:IntKind.i64.wrap (((s.checks:Nat):Int)+1)=((s.checks+1:Nat):Int):=by rw [i64_add ⟨by omega,by omega⟩];omega
 -- behind the look
 have HL:Hid (∃ W,(if look then W=w.setCell ⟨bm,6,none⟩ (.int .i64 ((s.checks:Int)+1)) else W=w)/\Off (Foot.one bm) w W/\MachP base bs fuel W bm (lookB look s) ⟨0,0,0⟩ ov (.slice (some ⟨ga,0,none⟩) nl cap) vv cv mv m F):=Lib.hid (by
  cases look
  ·exact ⟨w,rfl,Off.refl _ _,HP.out⟩
  ·exact ⟨_,rfl,Off.set w ⟨bm,6,none⟩ _,HP.out.put (s' := { s with checks:=s.checks+1 }) (o':=⟨0,0,0⟩) 6 (.int .i64 ((s.checks:Int)+1)) rfl HP.out.out HP.out.arr HP.out.vis HP.out.cel rfl⟩)
 obtain ⟨W,hW,hoff,hPW⟩:=HL.out
 have HOFF:=Lib.hid hoff
 have HPW:=Lib.hid hPW
 clear hoff hPW HL
 have HMB:Hid (∀ k,Foot.one bm k -> ∃ i,F i k):=Lib.hid (fun k hk=>⟨0,(HP.out.b0 k).2 hk⟩)
 go_enter Tryz.func174,Tryz.ntmps174
 obtain ⟨lm,cm,fm⟩:=BM.out
 go_upto_region 2 with (fail)
 cases look
 ·obtain rfl:w=W:=hW.symm
  go_upto_region 4 with (fail)
  clear cm fm
  cases h0:decide (i < 0)
  rotate_left
  ·have h00:i < 0:=by simpa using h0
   go_wp2_with fail
   refine (endC 5).mono ?_
   rintro e w1 ⟨rfl,hb⟩
   unfold overE
   go_wp2
   exact ⟨rfl,.inl ⟨.inl h00,rfl,MOk.of HD.out (HPW.out.later hb) (Off.trans (HOFF.out.mono fun k _ hk=>HMB.out k hk) (Off.of_below hb _)) (fun i k hk=>.inl hk)⟩⟩
  have hi0:0 <= i:=by simp at h0;omega
  cases h1:decide ((al:Int) <= i)
  rotate_left
  ·have h11:(a.length:Int) <= i:=by rw [<-HAL.out];simpa using h1
   go_wp2_with fail
   refine (endC 5).mono ?_
   rintro e w1 ⟨rfl,hb⟩
   unfold overE
   go_wp2
   exact ⟨rfl,.inl ⟨.inr h11,rfl,MOk.of HD.out (HPW.out.later hb) (Off.trans (HOFF.out.mono fun k _ hk=>HMB.out k hk) (Off.of_below hb _)) (fun i k hk=>.inl hk)⟩⟩
  obtain ⟨j,rfl⟩ : ∃ j:Nat,i=j:=⟨i.toNat,by omega⟩
  have hjl:j < al:=by simp at h1;omega
  obtain ⟨x,hx⟩ : ∃ x,a[j]? = some x:=⟨_,List.getElem?_eq_getElem (by rw [<-HAL.out];exact hjl)⟩
  obtain ⟨g,rfl,hSg,hgl,hne,hci,hfi, -⟩:=HOP.out j x hx
  have HX:=Lib.hid hx
  have hgb:¬ Foot.one bm g:=fun e=>HP.out.apart 2 0 (by omega) g hSg ((HP.out.b0 g).2 e)
  have HMT:Hid (MAt w bm n g):=Lib.hid ⟨ga,nl,cap,al,c,BM.out.at 4 rfl,hcell⟩
  have HCI:=Lib.hid ((HOFF.out.cell2 (p:=⟨g,j,none⟩) hgl hgb).trans hci)
  have HFI:=Lib.hid ((HOFF.out.frozen2 (p:=⟨g,j,none⟩) hgl hgb).trans (hfi j))
  have HGA:=Lib.hid ((HOFF.out.cell2 (p:=⟨ga,n,none⟩) hgal hgm).trans hcell)
  have HSG:=Lib.hid hSg
  clear hx hci hfi hgb hSg hcell
  go_wp2
  go_ret
  refine .inr ⟨j,g,x,rfl,HX.out,rfl,HMT.out,(HD.out g).2 ⟨2,HSG.out⟩,MOk.of HD.out HPW.out (HOFF.out.mono fun k _ hk=>HMB.out k hk) (fun i k hk=>.inl hk),HCI.out,HFI.out,fun W' y hb hy => ?_⟩
  have hP2:=HPW.out.later hb
  have hlen:(lookB false s).arrays=s.arrays:=rfl
  obtain ⟨ga2,cap2,c2,ad2,hv2,hgal2, -,hcell2, -,hop2⟩:=hP2.arr.open (n:=n) (a:=a) HN.out
  obtain ⟨rfl, -⟩ : ga=ga2/\cap=cap2:=by injection hv2 with q1 q2 q3;injection q1 with q1;injection q1 with q1;exact ⟨q1,q3⟩
  have hgaW:ga < w.heap.size:=Nat.lt_of_lt_of_le hgal HOFF.out.size
  have hsame:=(hb.cell (p:=⟨ga,n,none⟩) hgaW).trans HGA.out
  rw [hcell2] at hsame
  obtain ⟨g3,e3,hS3,hg3,hne3, -, -,hset3⟩:=hop2 j x HX.out
  obtain rfl:g=g3:=by
   rw [e3] at hsame
   injection hsame with q
   injection q with q1 q2 q3
   injection q1 with q1
   injection q1 with q1
   exact q1.symm
  have hoff2:=Off.set W' ⟨g,j,none⟩ (.int .i64 y)
  have hbase:base <= W'.heap.size:=Nat.le_trans hB (Nat.le_trans HOFF.out.size hb.size)
  refine MOk.of (F':=newF F 2 (F 2)) HD.out (hP2.turn 2 (by omega) (by omega) (s' := { lookB false s with arrays:=s.arrays.set n (a.set j y) }) (G:=F 2) (hoff2.mono fun k _ hk=>by cases hk;exact HSG.out) (fun k hk=>.inl hk) hbase (fun e=>by omega) ⟨rfl,rfl⟩ (by rw [if_neg (by omega)]) (by rw [if_pos rfl];exact hset3 y hy) (by rw [if_neg (by omega)]) (by rw [if_neg (by omega)]) (by rw [if_neg (by omega)];exact ⟨rfl,rfl⟩)) ?_ (fun i k hk => ?_)
  ·exact ((HOFF.out.mono fun k _ hk=>HMB.out k hk).trans (Off.of_below hb _)).trans (hoff2.mono fun k _ hk=>by cases hk;exact ⟨2,HSG.out⟩)
  ·unfold newF at hk
   split at hk
   ·rename_i e;subst e;exact .inl hk
   ·exact .inl hk
 ·obtain rfl:W=w.setCell ⟨bm,6,none⟩ (.int .i64 ((s.checks:Int)+1)):=hW
  go_upto_region 4 with (fail)
  clear cm fm hadd
  generalize w.setCell ⟨bm,6,none⟩ (.int .i64 ((s.checks:Int)+1))=W at *
  cases h0:decide (i < 0)
  rotate_left
  ·have h00:i < 0:=by simpa using h0
   go_wp2_with fail
   refine (trapC (-2)).mono ?_
   rintro e w1 ⟨rfl,hb⟩
   unfold overE
   go_wp2
   exact ⟨rfl,.inl ⟨.inl h00,rfl,MOk.of HD.out (HPW.out.later hb) (Off.trans (HOFF.out.mono fun k _ hk=>HMB.out k hk) (Off.of_below hb _)) (fun i k hk=>.inl hk)⟩⟩
  have hi0:0 <= i:=by simp at h0;omega
  cases h1:decide ((al:Int) <= i)
  rotate_left
  ·have h11:(a.length:Int) <= i:=by rw [<-HAL.out];simpa using h1
   go_wp2_with fail
   refine (trapC (-2)).mono ?_
   rintro e w1 ⟨rfl,hb⟩
   unfold overE
   go_wp2
   exact ⟨rfl,.inl ⟨.inr h11,rfl,MOk.of HD.out (HPW.out.later hb) (Off.trans (HOFF.out.mono fun k _ hk=>HMB.out k hk) (Off.of_below hb _)) (fun i k hk=>.inl hk)⟩⟩
  obtain ⟨j,rfl⟩ : ∃ j:Nat,i=j:=⟨i.toNat,by omega⟩
  have hjl:j < al:=by simp at h1;omega
  obtain ⟨x,hx⟩ : ∃ x,a[j]? = some x:=⟨_,List.getElem?_eq_getElem (by rw [<-HAL.out];exact hjl)⟩
  obtain ⟨g,rfl,hSg,hgl,hne,hci,hfi, -⟩:=HOP.out j x hx
  have HX:=Lib.hid hx
  have hgb:¬ Foot.one bm g:=fun e=>HP.out.apart 2 0 (by omega) g hSg ((HP.out.b0 g).2 e)
  have HMT:Hid (MAt w bm n g):=Lib.hid ⟨ga,nl,cap,al,c,BM.out.at 4 rfl,hcell⟩
  have HCI:=Lib.hid ((HOFF.out.cell2 (p:=⟨g,j,none⟩) hgl hgb).trans hci)
  have HFI:=Lib.hid ((HOFF.out.frozen2 (p:=⟨g,j,none⟩) hgl hgb).trans (hfi j))
  have HGA:=Lib.hid ((HOFF.out.cell2 (p:=⟨ga,n,none⟩) hgal hgm).trans hcell)
  have HSG:=Lib.hid hSg
  clear hx hci hfi hgb hSg hcell
  go_wp2
  go_ret
  refine .inr ⟨j,g,x,rfl,HX.out,rfl,HMT.out,(HD.out g).2 ⟨2,HSG.out⟩,MOk.of HD.out HPW.out (HOFF.out.mono fun k _ hk=>HMB.out k hk) (fun i k hk=>.inl hk),HCI.out,HFI.out,fun W' y hb hy => ?_⟩
  have hP2:=HPW.out.later hb
  have hlen:(lookB true s).arrays=s.arrays:=rfl
  obtain ⟨ga2,cap2,c2,ad2,hv2,hgal2, -,hcell2, -,hop2⟩:=hP2.arr.open (n:=n) (a:=a) HN.out
  obtain ⟨rfl, -⟩ : ga=ga2/\cap=cap2:=by injection hv2 with q1 q2 q3;injection q1 with q1;injection q1 with q1;exact ⟨q1,q3⟩
  have hgaW:ga < W.heap.size:=Nat.lt_of_lt_of_le hgal HOFF.out.size
  have hsame:=(hb.cell (p:=⟨ga,n,none⟩) hgaW).trans HGA.out
  rw [hcell2] at hsame
  obtain ⟨g3,e3,hS3,hg3,hne3, -, -,hset3⟩:=hop2 j x HX.out
  obtain rfl:g=g3:=by
   rw [e3] at hsame
   injection hsame with q
   injection q with q1 q2 q3
   injection q1 with q1
   injection q1 with q1
   exact q1.symm
  have hoff2:=Off.set W' ⟨g,j,none⟩ (.int .i64 y)
  have hbase:base <= W'.heap.size:=Nat.le_trans hB (Nat.le_trans HOFF.out.size hb.size)
  refine MOk.of (F':=newF F 2 (F 2)) HD.out (hP2.turn 2 (by omega) (by omega) (s' := { lookB true s with arrays:=s.arrays.set n (a.set j y) }) (G:=F 2) (hoff2.mono fun k _ hk=>by cases hk;exact HSG.out) (fun k hk=>.inl hk) hbase (fun e=>by omega) ⟨rfl,rfl⟩ (by rw [if_neg (by omega)]) (by rw [if_pos rfl];exact hset3 y hy) (by rw [if_neg (by omega)]) (by rw [if_neg (by omega)]) (by rw [if_neg (by omega)];exact ⟨rfl,rfl⟩)) ?_ (fun i k hk => ?_)
  ·exact ((HOFF.out.mono fun k _ hk=>HMB.out k hk).trans (Off.of_below hb _)).trans (hoff2.mono fun k _ hk=>by cases hk;exact ⟨2,HSG.out⟩)
  ·unfold newF at hk
   split at hk
   ·rename_i e;subst e;exact .inl hk
   ·exact .inl hk
end Go.Proofs.YtgmhnepmkaonaaaGreat
