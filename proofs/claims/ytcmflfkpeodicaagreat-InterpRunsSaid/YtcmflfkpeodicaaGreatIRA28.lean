/- Part 28. -/
import Derived.Test.YtcmflfkpeodicaaGreatIRA27
namespace Go.Proofs.YtcmflfkpeodicaaGreat
set_option maxHeartbeats 3200000
set_option linter.all false
open Go.RowKit
theorem Off.frozen2 {S:Foot} {W W' : World} (h:Off S W W') {p:Addr} (hl:p.block < W.heap.size) (hn:¬ S p.block):W'.frozen? p=W.frozen? p:=World.frozen?_of_block (w:=W) (h.block p.block hl hn)
theorem Off.cell2 {S:Foot} {W W' : World} (h:Off S W W') {p:Addr} (hl:p.block < W.heap.size) (hn:¬ S p.block):W'.cell? p=W.cell? p:=World.cell?_of_block (w:=W) (h.block p.block hl hn)
def OLis (W:World) (S:Foot) (cs:List Value) (xs:List Int):Prop := ∃ v,cs=[v]/\eM W S v xs
theorem OLis.nice:Nice OLis where
 keep:=fun ⟨v,e,h⟩ hk=>⟨v,e,h.keep hk⟩
 lt:=fun ⟨v,e,h⟩=>h.lt
 wide:=fun ⟨v,e,h⟩ hs hl=>⟨v,e,h.wide hs hl⟩
abbrev iG:=OSl OLis 22 1
theorem tW:Elem Tryz.prog 26 22 (.slice none 0 0) 1 24:=pI Tryz.underlying26 (by kernel_rfl) rfl (by omega)
theorem iG.open {W:World} {S:Foot} {v:Value} {xs:List (List Int)} (h:iG W S v xs) {n:Nat} {a:List Int} (hn:xs[n]? = some a) :
  ∃ (ga cap c:Nat) (ad:Option Addr),v = .slice (some ⟨ga,0,none⟩) xs.length cap/\ga < W.heap.size/\S ga/\W.cell? ⟨ga,n,none⟩=some (.slice ad a.length c)/\Ints W (.slice ad a.length c) a /\
   ∀ i x,a[i]? = some x -> ∃ g,ad=some ⟨g,0,none⟩/\S g/\g < W.heap.size/\g ≠ ga/\W.cell? ⟨g,i,none⟩=some (.int .i64 x)/\(∀ o,W.frozen? ⟨g,o,none⟩=false) /\
    ∀ y,In64 y -> iG (W.setCell ⟨g,i,none⟩ (.int .i64 y)) S v (xs.set n (a.set i y)):=by
 obtain ⟨cs,G,F,hp⟩:=h
 have hnl:=(aE.1 hn).1
 obtain ⟨ga,cap,hv,hG, -, -,hgl,hcell,hfr⟩:=hp.row.addr (by omega)
 obtain ⟨u,hu,ho⟩:=hp.el n a hn
 obtain ⟨ad,c,rfl⟩:=ho.ints.form
 have hc0:cs[n]? = some (.slice ad a.length c):=by
  have h1:=vB (cs:=cs) (size:=1) (j:=n) (i:=0) (by omega)
  rw [hu] at h1
  simpa using h1.symm
 refine ⟨ga,cap,c,ad,hv,hgl,hp.inG _ hG,hcell n _ hc0,ho.ints,fun i x hi => ?_⟩
 obtain ⟨g,cap2,hg,hFg,hgl2,hci,hfi,hset⟩:=ho.addr hi
 have e:ad=some ⟨g,0,none⟩:=by injection hg
 have hne:g ≠ ga:=fun e2=>hp.free n hnl g hFg (by rw [e2];exact hG)
 refine ⟨g,e,hp.inF n g hnl hFg,hgl2,hne,hci,hfi,fun y hy => ?_⟩
 have hoff:=Off.set W ⟨g,i,none⟩ (.int .i64 y)
 refine ⟨cs,G,_,hp.put OLis.nice hn (a.set i y) (Fj:=F n) (hoff.mono fun k _ hk=>by cases hk;exact .inr hFg) (hp.row.off hoff fun k h1 h2=>by cases h2;exact hp.free n hnl _ hFg h1) (fun _ _ _=>rfl) ⟨_,hu,hset y hy⟩ (fun k hk=>.inl hk) S (fun k hk=>hk) (fun k hk=>hp.inF n k hnl hk) (fun k hk=>by simpa [World.setCell] using hp.lt k hk)⟩
structure MachP (base bs fuel:Nat) (W:World) (bm:Nat) (s:RunS) (o:OverD) (ov av vv cv:Value) (mv:Nat) (m:List (Int × Value)) (F:Nat -> Foot):Prop where
 box:Box W bm #[.int .i64 o.how,.int .i64 o.value,.int .i64 o.trap,ov,av,.int .i64 s.steps,.int .i64 s.checks,vv,.pointer (some ⟨bs,0,none⟩),.int .i64 fuel,.map (some mv),cv]
 b0:∀ k,F 0 k ↔ k=bm
 out:eM W (F 1) ov s.out
 arr:iG W (F 2) av s.arrays
 vis:eM W (F 3) vv (natI s.visits)
 mp:IMap W mv m
 m4:∀ k,F 4 k ↔ k=mv
 val:∀ id,(mget m id).getD (.int .i64 0) = .int .i64 (s.vals id)
 cel:eM W (F 5) cv s.cells
 v64:∀ id,In64 (s.vals id)
 apart:∀ i j,i ≠ j -> (F i).off (F j)
 six:∀ i k,F i k -> i < 6
 base:∀ i k,F i k -> base <= k
theorem MachP.lt {base bs fuel:Nat} {W:World} {bm:Nat} {s:RunS} {o:OverD} {ov av vv cv:Value} {mv:Nat} {m:List (Int × Value)} {F:Nat -> Foot} (h:MachP base bs fuel W bm s o ov av vv cv mv m F) {i k:Nat} (hk:F i k):k < W.heap.size:=by
 have h6:=h.six i k hk
 rcases i with _ | _ | _ | _ | _ | _ | i
 ·rw [(h.b0 k).1 hk];exact h.box.lt
 ·exact h.out.lt k hk
 ·exact h.arr.lt k hk
 ·exact h.vis.lt k hk
 ·rw [(h.m4 k).1 hk];exact h.mp.lt
 ·exact h.cel.lt k hk
 omega
theorem MachP.keep {base bs fuel:Nat} {W W' : World} {bm:Nat} {s:RunS} {o:OverD} {ov av vv cv:Value} {mv:Nat} {m:List (Int × Value)} {F:Nat -> Foot} (h:MachP base bs fuel W bm s o ov av vv cv mv m F) {D:Foot} (ho:Off D W W') (hD:∀ i k,F i k -> ¬ D k):MachP base bs fuel W' bm s o ov av vv cv mv m F :=
 ⟨h.box.off ho (hD 0 _ ((h.b0 _).2 rfl)),h.b0,h.out.off ho (hD 1),h.arr.off OLis.nice ho (hD 2),h.vis.off ho (hD 3),h.mp.keep (ho.block _ h.mp.lt (hD 4 _ ((h.m4 _).2 rfl))),h.m4,h.val,h.cel.off ho (hD 5),h.v64,h.apart,h.six,h.base⟩
theorem MachP.later {base bs fuel:Nat} {W W' : World} {bm:Nat} {s:RunS} {o:OverD} {ov av vv cv:Value} {mv:Nat} {m:List (Int × Value)} {F:Nat -> Foot} (h:MachP base bs fuel W bm s o ov av vv cv mv m F) (hb:Below W.heap.size W W'):MachP base bs fuel W' bm s o ov av vv cv mv m F :=
 h.keep (Off.of_below hb Foot.none) fun _ _ _ h=>h
theorem MachP.put {base bs fuel:Nat} {W:World} {bm:Nat} {s s' : RunS} {o o' : OverD} {ov av vv cv ov' av' vv' cv' : Value} {mv:Nat} {m:List (Int × Value)} {F:Nat -> Foot} (h:MachP base bs fuel W bm s o ov av vv cv mv m F) (i:Nat) (v:Value)
  (hb:#[Value.int .i64 o.how,.int .i64 o.value,.int .i64 o.trap,ov,av,.int .i64 s.steps,.int .i64 s.checks,vv,.pointer (some ⟨bs,0,none⟩),.int .i64 fuel,.map (some mv),cv].setIfInBounds i v = #[.int .i64 o'.how,.int .i64 o'.value,.int .i64 o'.trap,ov',av',.int .i64 s'.steps,.int .i64 s'.checks,vv',.pointer (some ⟨bs,0,none⟩),.int .i64 fuel,.map (some mv),cv'])
  (ho:eM W (F 1) ov' s'.out) (ha:iG W (F 2) av' s'.arrays) (hv:eM W (F 3) vv' (natI s'.visits)) (hc:eM W (F 5) cv' s'.cells) (hs:s'.vals=s.vals):MachP base bs fuel (W.setCell ⟨bm,i,none⟩ v) bm s' o' ov' av' vv' cv' mv m F:=by
 have hoff:=Off.set W ⟨bm,i,none⟩ v
 have hne:∀ j k,j ≠ 0 -> F j k -> ¬ Foot.one bm k:=fun j k hj hk e=>h.apart j 0 hj k hk ((h.b0 k).2 e)
 have hbx:=h.box.set i v
 rw [hb] at hbx
 exact ⟨hbx,h.b0,ho.off hoff (fun k=>hne 1 k (by omega)),ha.off OLis.nice hoff (fun k=>hne 2 k (by omega)),hv.off hoff (fun k=>hne 3 k (by omega)),h.mp.keep (hoff.block _ h.mp.lt (hne 4 _ (by omega) ((h.m4 _).2 rfl))),h.m4,by rw [hs];exact h.val,hc.off hoff (fun k=>hne 5 k (by omega)),by rw [hs];exact h.v64,h.apart,h.six,h.base⟩
def newF (F:Nat -> Foot) (i:Nat) (G:Foot) (j:Nat):Foot:=if j=i then G else F j
theorem iQ (F:Nat -> Foot) (i:Nat) (G:Foot):newF F i G i=G:=by unfold newF;rw [if_pos rfl]
theorem eV (F:Nat -> Foot) (i:Nat) (G:Foot) {j:Nat} (h:j ≠ i):newF F i G j=F j:=by unfold newF;rw [if_neg h]
theorem jO {F:Nat -> Foot} {i:Nat} {G:Foot} {n:Nat} (h:∀ i j,i ≠ j -> (F i).off (F j)) (hl:∀ i k,F i k -> k < n) (hG:∀ k,G k -> F i k \/ n <= k):∀ a b,a ≠ b -> (newF F i G a).off (newF F i G b):=by
 intro a b hab k h1 h2
 unfold newF at h1 h2
 by_cases ha:a=i
 ·rw [if_pos ha] at h1
  rw [if_neg (fun e=>hab (ha.trans e.symm))] at h2
  rcases hG k h1 with h3 | h3
  ·exact h i b (fun e=>hab (ha.trans e)) k h3 h2
  have:=hl b k h2;omega
 rw [if_neg ha] at h1
 by_cases hb:b=i
 ·rw [if_pos hb] at h2
  rcases hG k h2 with h3 | h3
  ·exact h a i ha k h1 h3
  have:=hl a k h1;omega
 rw [if_neg hb] at h2
 exact h a b hab k h1 h2
theorem MachP.turn {base bs fuel:Nat} {W W' : World} {bm:Nat} {s s' : RunS} {o:OverD} {ov av vv cv:Value} {mv:Nat} {m m' : List (Int × Value)} {F:Nat -> Foot} (h:MachP base bs fuel W bm s o ov av vv cv mv m F) (i:Nat) (hi:i < 6) (h0:i ≠ 0) {G:Foot} (ho:Off (F i) W W') (hG:∀ k,G k -> F i k \/ W.heap.size <= k) (hB:base <= W.heap.size) (h4:i=4 -> ∀ k,G k ↔ k=mv)
  (hst:s'.steps=s.steps/\s'.checks=s.checks)
  (h1:if i=1 then eM W' G ov s'.out else s'.out=s.out) (h2:if i=2 then iG W' G av s'.arrays else s'.arrays=s.arrays) (h3:if i=3 then eM W' G vv (natI s'.visits) else s'.visits=s.visits) (h5:if i=5 then eM W' G cv s'.cells else s'.cells=s.cells)
  (hm:if i=4 then IMap W' mv m' /\ (∀ id,(mget m' id).getD (.int .i64 0) = .int .i64 (s'.vals id))/\(∀ id,In64 (s'.vals id)) else m' = m/\s'.vals=s.vals):MachP base bs fuel W' bm s' o ov av vv cv mv m' (newF F i G):=by
 have hne:∀ j,j ≠ i -> (F j).off (F i):=fun j hj=>h.apart j i hj
 refine ⟨by rw [hst.1,hst.2];exact h.box.off ho (fun e=>h.apart 0 i (Ne.symm h0) _ ((h.b0 _).2 rfl) e),by rw [eV F i G (Ne.symm h0)];exact h.b0, ?_, ?_, ?_, ?_, ?_, ?_, ?_, ?_,jO h.apart (fun _ _ hk=>h.lt hk) hG, ?_, ?_⟩
 ·by_cases e:i=1
  ·rw [if_pos e] at h1;subst e;rw [iQ];exact h1
  rw [if_neg e] at h1;rw [eV F i G (Ne.symm e),h1];exact h.out.off ho (hne 1 (Ne.symm e))
 ·by_cases e:i=2
  ·rw [if_pos e] at h2;subst e;rw [iQ];exact h2
  rw [if_neg e] at h2;rw [eV F i G (Ne.symm e),h2];exact h.arr.off OLis.nice ho (hne 2 (Ne.symm e))
 ·by_cases e:i=3
  ·rw [if_pos e] at h3;subst e;rw [iQ];exact h3
  rw [if_neg e] at h3;rw [eV F i G (Ne.symm e),h3];exact h.vis.off ho (hne 3 (Ne.symm e))
 ·by_cases e:i=4
  ·rw [if_pos e] at hm;exact hm.1
  rw [if_neg e] at hm;rw [hm.1];exact h.mp.keep (ho.block _ h.mp.lt (fun hk=>h.apart 4 i (Ne.symm e) _ ((h.m4 _).2 rfl) hk))
 ·by_cases e:i=4
  ·subst e;rw [iQ];exact h4 rfl
  rw [eV F i G (Ne.symm e)];exact h.m4
 ·by_cases e:i=4
  ·rw [if_pos e] at hm;exact hm.2.1
  rw [if_neg e] at hm;rw [hm.1,hm.2];exact h.val
 ·by_cases e:i=5
  ·rw [if_pos e] at h5;subst e;rw [iQ];exact h5
  rw [if_neg e] at h5;rw [eV F i G (Ne.symm e),h5];exact h.cel.off ho (hne 5 (Ne.symm e))
 ·by_cases e:i=4
  ·rw [if_pos e] at hm;exact hm.2.2
  rw [if_neg e] at hm;rw [hm.2];exact h.v64
 ·intro j k hk
  unfold newF at hk
  by_cases e:j=i
  ·omega
  rw [if_neg e] at hk;exact h.six j k hk
 ·intro j k hk
  unfold newF at hk
  by_cases e:j=i
  ·rw [if_pos e] at hk
   rcases hG k hk with h9 | h9
   ·exact h.base i k h9
   omega
  rw [if_neg e] at hk;exact h.base j k hk
def Mach (base bs fuel:Nat) (W:World) (bm:Nat) (D:Foot) (s:RunS):Prop := ∃ (ov av vv cv:Value) (mv:Nat) (m:List (Int × Value)) (F:Nat -> Foot),MachP base bs fuel W bm s ⟨0,0,0⟩ ov av vv cv mv m F /\ ∀ k,D k ↔ ∃ i,F i k
theorem MachP.mach {base bs fuel:Nat} {W:World} {bm:Nat} {s:RunS} {ov av vv cv:Value} {mv:Nat} {m:List (Int × Value)} {F:Nat -> Foot} (h:MachP base bs fuel W bm s ⟨0,0,0⟩ ov av vv cv mv m F):Mach base bs fuel W bm (fun k => ∃ i,F i k) s:=⟨ov,av,vv,cv,mv,m,F,h,fun _=>Iff.rfl⟩
theorem Mach.lt {base bs fuel:Nat} {W:World} {bm:Nat} {D:Foot} {s:RunS} (h:Mach base bs fuel W bm D s):∀ k,D k -> k < W.heap.size:=fun k hk=>by
 obtain ⟨_,_,_,_,_,_,F,hp,hD⟩:=h
 obtain ⟨i,hi⟩:=(hD k).1 hk
 exact hp.lt hi
theorem Mach.base {base bs fuel:Nat} {W:World} {bm:Nat} {D:Foot} {s:RunS} (h:Mach base bs fuel W bm D s):∀ k,D k -> base <= k:=fun k hk=>by
 obtain ⟨_,_,_,_,_,_,F,hp,hD⟩:=h
 obtain ⟨i,hi⟩:=(hD k).1 hk
 exact hp.base i k hi
theorem Mach.keep {base bs fuel:Nat} {W W' : World} {bm:Nat} {D:Foot} {s:RunS} (h:Mach base bs fuel W bm D s) {E:Foot} (ho:Off E W W') (hE:D.off E):Mach base bs fuel W' bm D s:=by
 obtain ⟨ov,av,vv,cv,mv,m,F,hp,hD⟩:=h
 exact ⟨ov,av,vv,cv,mv,m,F,hp.keep ho (fun i k hk=>hE k ((hD k).2 ⟨i,hk⟩)),hD⟩
theorem Mach.later {base bs fuel:Nat} {W W' : World} {bm:Nat} {D:Foot} {s:RunS} (h:Mach base bs fuel W bm D s) (hb:Below W.heap.size W W'):Mach base bs fuel W' bm D s:=h.keep (Off.of_below hb Foot.none) fun _ _ h=>h
theorem Mach.alloc {base bs fuel:Nat} {W:World} {bm:Nat} {D:Foot} {s:RunS} (h:Mach base bs fuel W bm D s) (o:Obj):Mach base bs fuel (W.alloc o) bm D s:=h.later ((Below.refl _ _).alloc (aF _) o)
def MOk (base bs fuel:Nat) (w:World) (bm:Nat) (D:Foot) (s' : RunS) (w' : World):Prop := ∃ D',Mach base bs fuel w' bm D' s' /\ Off D w w' /\ ∀ k,D' k -> D k \/ w.heap.size <= k
theorem MOk.of {base bs fuel:Nat} {W W' : World} {bm:Nat} {s' : RunS} {ov' av' vv' cv' : Value} {mv' : Nat} {m' : List (Int × Value)} {F F' : Nat -> Foot} {D:Foot} (hD:∀ k,D k ↔ ∃ i,F i k)
  (h' : MachP base bs fuel W' bm s' ⟨0,0,0⟩ ov' av' vv' cv' mv' m' F') (ho:Off (fun k => ∃ i,F i k) W W') (hF:∀ i k,F' i k -> F i k \/ W.heap.size <= k):MOk base bs fuel W bm D s' W' :=
 ⟨_,h'.mach,ho.mono (fun k _ hk=>(hD k).2 hk),fun k ⟨i,hi⟩=>(hF i k hi).imp (fun h=>(hD k).2 ⟨i,h⟩) id⟩
theorem MOk.still {base bs fuel:Nat} {W W' : World} {bm:Nat} {s:RunS} {ov av vv cv:Value} {mv:Nat} {m:List (Int × Value)} {F:Nat -> Foot} {D:Foot} (hD:∀ k,D k ↔ ∃ i,F i k)
  (h:MachP base bs fuel W bm s ⟨0,0,0⟩ ov av vv cv mv m F) (hb:Below W.heap.size W W'):MOk base bs fuel W bm D s W':=MOk.of hD (h.later hb) (Off.of_below hb _) fun _ _ hk=>.inl hk
theorem MOk.same {base bs fuel:Nat} {w:World} {bm:Nat} {D:Foot} {s:RunS} (h:Mach base bs fuel w bm D s) {w' : World} (hb:Below w.heap.size w w'):MOk base bs fuel w bm D s w':=⟨D,h.later hb,Off.of_below hb D,fun _ h=>.inl h⟩
theorem MOk.trans {base bs fuel:Nat} {w w1 w2:World} {bm:Nat} {D D1:Foot} {s:RunS} (h1:Off D w w1) (hD:∀ k,D1 k -> D k \/ w.heap.size <= k) (h2:MOk base bs fuel w1 bm D1 s w2):MOk base bs fuel w bm D s w2:=by
 obtain ⟨D2,m2,o2,d2⟩:=h2
 refine ⟨D2,m2,Off.grow h1 o2 hD,fun k hk => ?_⟩
 rcases d2 k hk with h | h
 ·exact hD k h
 exact .inr (aJ h1.size h)
def jW (o:OverD):Ending:=.panicked [{ v:=.iface 150 (.agg #[.int .i64 o.how,.int .i64 o.value,.int .i64 o.trap]),recovered:=false }]
structure RefC where
 base:Nat
 fuel:Nat
 fa:Value
 fb:Value
 iv:Value
 ar:Int
 ce:Int
 ids:List Int
structure RefP (c:RefC) (W:World) (b:Nat) (s:RunS) (o:OverD) (dead:Bool) (ov av vv xv cv:Value) (F:Nat -> Foot):Prop where
 box:Box W b #[c.fa,.int .i64 c.ar,.int .i64 c.ce,c.fb,.int .i64 o.how,.int .i64 o.value,.int .i64 o.trap,ov,av,.int .i64 s.steps,.int .i64 s.checks,vv,.int .i64 c.fuel,c.iv,xv,cv,.bool dead]
 b0:∀ k,F 0 k ↔ k=b
 out:eM W (F 1) ov s.out
 arr:iG W (F 2) av s.arrays
 vis:eM W (F 3) vv (natI s.visits)
 val:eM W (F 4) xv (c.ids.map s.vals)
 cel:eM W (F 5) cv s.cells
 v64:∀ id,In64 (s.vals id)
 apart:∀ i j,i ≠ j -> (F i).off (F j)
 six:∀ i k,F i k -> i < 6
 base:∀ i k,F i k -> c.base <= k
theorem RefP.lt {c:RefC} {W:World} {b:Nat} {s:RunS} {o:OverD} {dead:Bool} {ov av vv xv cv:Value} {F:Nat -> Foot} (h:RefP c W b s o dead ov av vv xv cv F) {i k:Nat} (hk:F i k):k < W.heap.size:=by
 have h6:=h.six i k hk
 rcases i with _ | _ | _ | _ | _ | _ | i
 ·rw [(h.b0 k).1 hk];exact h.box.lt
 ·exact h.out.lt k hk
 ·exact h.arr.lt k hk
 ·exact h.vis.lt k hk
 ·exact h.val.lt k hk
 ·exact h.cel.lt k hk
 omega
theorem RefP.keep {c:RefC} {W W' : World} {b:Nat} {s:RunS} {o:OverD} {dead:Bool} {ov av vv xv cv:Value} {F:Nat -> Foot} (h:RefP c W b s o dead ov av vv xv cv F) {D:Foot} (ho:Off D W W') (hD:∀ i,(F i).off D):RefP c W' b s o dead ov av vv xv cv F :=
 ⟨h.box.off ho (hD 0 _ ((h.b0 _).2 rfl)),h.b0,h.out.off ho (hD 1),h.arr.off OLis.nice ho (hD 2),h.vis.off ho (hD 3),h.val.off ho (hD 4),h.cel.off ho (hD 5),h.v64,h.apart,h.six,h.base⟩
theorem RefP.later {c:RefC} {W W' : World} {b:Nat} {s:RunS} {o:OverD} {dead:Bool} {ov av vv xv cv:Value} {F:Nat -> Foot} (h:RefP c W b s o dead ov av vv xv cv F) (hb:Below W.heap.size W W'):RefP c W' b s o dead ov av vv xv cv F :=
 h.keep (Off.of_below hb Foot.none) fun _ _ _ h=>h
theorem RefP.put {c:RefC} {W:World} {b:Nat} {s s' : RunS} {o o' : OverD} {dead dead' : Bool} {ov av vv xv cv ov' av' vv' xv' cv' : Value} {F:Nat -> Foot} (h:RefP c W b s o dead ov av vv xv cv F) (i:Nat) (v:Value)
  (hb:#[c.fa,.int .i64 c.ar,.int .i64 c.ce,c.fb,.int .i64 o.how,.int .i64 o.value,.int .i64 o.trap,ov,av,.int .i64 s.steps,.int .i64 s.checks,vv,.int .i64 c.fuel,c.iv,xv,cv,.bool dead].setIfInBounds i v =
   #[c.fa,.int .i64 c.ar,.int .i64 c.ce,c.fb,.int .i64 o'.how,.int .i64 o'.value,.int .i64 o'.trap,ov',av',.int .i64 s'.steps,.int .i64 s'.checks,vv',.int .i64 c.fuel,c.iv,xv',cv',.bool dead'])
  (ho:eM W (F 1) ov' s'.out) (ha:iG W (F 2) av' s'.arrays) (hv:eM W (F 3) vv' (natI s'.visits)) (hx:eM W (F 4) xv' (c.ids.map s'.vals)) (hc:eM W (F 5) cv' s'.cells) (hs:∀ id,In64 (s'.vals id)):RefP c (W.setCell ⟨b,i,none⟩ v) b s' o' dead' ov' av' vv' xv' cv' F:=by
 have hoff:=Off.set W ⟨b,i,none⟩ v
 have hne:∀ j k,j ≠ 0 -> F j k -> ¬ Foot.one b k:=fun j k hj hk e=>h.apart j 0 hj k hk ((h.b0 k).2 e)
 have hbx:=h.box.set i v
 rw [hb] at hbx
 exact ⟨hbx,h.b0,ho.off hoff (fun k=>hne 1 k (by omega)),ha.off OLis.nice hoff (fun k=>hne 2 k (by omega)),hv.off hoff (fun k=>hne 3 k (by omega)),hx.off hoff (fun k=>hne 4 k (by omega)),hc.off hoff (fun k=>hne 5 k (by omega)),hs,h.apart,h.six,h.base⟩
theorem RefP.turn {c:RefC} {W W' : World} {b:Nat} {s s' : RunS} {o:OverD} {dead:Bool} {ov av vv xv cv:Value} {F:Nat -> Foot} (h:RefP c W b s o dead ov av vv xv cv F) (i:Nat) (hi:i < 6) (h0:i ≠ 0) {G:Foot} (ho:Off (F i) W W') (hG:∀ k,G k -> F i k \/ W.heap.size <= k) (hB:c.base <= W.heap.size)
  (hst:s'.steps=s.steps/\s'.checks=s.checks)
  (h1:if i=1 then eM W' G ov s'.out else s'.out=s.out) (h2:if i=2 then iG W' G av s'.arrays else s'.arrays=s.arrays) (h3:if i=3 then eM W' G vv (natI s'.visits) else s'.visits=s.visits)
  (h4:if i=4 then eM W' G xv (c.ids.map s'.vals) /\ ∀ id,In64 (s'.vals id) else s'.vals=s.vals) (h5:if i=5 then eM W' G cv s'.cells else s'.cells=s.cells):RefP c W' b s' o dead ov av vv xv cv (newF F i G):=by
 have hne:∀ j,j ≠ i -> (F j).off (F i):=fun j hj=>h.apart j i hj
 refine ⟨by rw [hst.1,hst.2];exact h.box.off ho (fun e=>h.apart 0 i (Ne.symm h0) _ ((h.b0 _).2 rfl) e),by rw [eV F i G (Ne.symm h0)];exact h.b0, ?_, ?_, ?_, ?_, ?_, ?_,jO h.apart (fun _ _ hk=>h.lt hk) hG, ?_, ?_⟩
 ·by_cases e:i=1
  ·rw [if_pos e] at h1;subst e;rw [iQ];exact h1
  rw [if_neg e] at h1;rw [eV F i G (Ne.symm e),h1];exact h.out.off ho (hne 1 (Ne.symm e))
 ·by_cases e:i=2
  ·rw [if_pos e] at h2;subst e;rw [iQ];exact h2
  rw [if_neg e] at h2;rw [eV F i G (Ne.symm e),h2];exact h.arr.off OLis.nice ho (hne 2 (Ne.symm e))
 ·by_cases e:i=3
  ·rw [if_pos e] at h3;subst e;rw [iQ];exact h3
  rw [if_neg e] at h3;rw [eV F i G (Ne.symm e),h3];exact h.vis.off ho (hne 3 (Ne.symm e))
 ·by_cases e:i=4
  ·rw [if_pos e] at h4;subst e;rw [iQ];exact h4.1
  rw [if_neg e] at h4;rw [eV F i G (Ne.symm e),h4];exact h.val.off ho (hne 4 (Ne.symm e))
 ·by_cases e:i=5
  ·rw [if_pos e] at h5;subst e;rw [iQ];exact h5
  rw [if_neg e] at h5;rw [eV F i G (Ne.symm e),h5];exact h.cel.off ho (hne 5 (Ne.symm e))
 ·by_cases e:i=4
  ·rw [if_pos e] at h4;exact h4.2
  rw [if_neg e] at h4;rw [h4];exact h.v64
 ·intro j k hk
  unfold newF at hk
  by_cases e:j=i
  ·omega
  rw [if_neg e] at hk;exact h.six j k hk
 ·intro j k hk
  unfold newF at hk
  by_cases e:j=i
  ·rw [if_pos e] at hk
   rcases hG k hk with h9 | h9
   ·exact h.base i k h9
   omega
  rw [if_neg e] at hk;exact h.base j k hk
def RefM (c:RefC) (W:World) (b:Nat) (D:Foot) (s:RunS) (o:OverD) (dead:Bool):Prop := ∃ (ov av vv xv cv:Value) (F:Nat -> Foot),RefP c W b s o dead ov av vv xv cv F /\ ∀ k,D k ↔ ∃ i,F i k
theorem RefP.mach {c:RefC} {W:World} {b:Nat} {s:RunS} {o:OverD} {dead:Bool} {ov av vv xv cv:Value} {F:Nat -> Foot} (h:RefP c W b s o dead ov av vv xv cv F):RefM c W b (fun k => ∃ i,F i k) s o dead:=⟨ov,av,vv,xv,cv,F,h,fun _=>Iff.rfl⟩
theorem RefM.lt {c:RefC} {W:World} {b:Nat} {D:Foot} {s:RunS} {o:OverD} {dead:Bool} (h:RefM c W b D s o dead):∀ k,D k -> k < W.heap.size:=fun k hk=>by
 obtain ⟨_,_,_,_,_,F,hp,hD⟩:=h
 obtain ⟨i,hi⟩:=(hD k).1 hk
 exact hp.lt hi
theorem RefM.base {c:RefC} {W:World} {b:Nat} {D:Foot} {s:RunS} {o:OverD} {dead:Bool} (h:RefM c W b D s o dead):∀ k,D k -> c.base <= k:=fun k hk=>by
 obtain ⟨_,_,_,_,_,F,hp,hD⟩:=h
 obtain ⟨i,hi⟩:=(hD k).1 hk
 exact hp.base i k hi
theorem RefM.keep {c:RefC} {W W' : World} {b:Nat} {D:Foot} {s:RunS} {o:OverD} {dead:Bool} (h:RefM c W b D s o dead) {E:Foot} (ho:Off E W W') (hE:D.off E):RefM c W' b D s o dead:=by
 obtain ⟨ov,av,vv,xv,cv,F,hp,hD⟩:=h
 exact ⟨ov,av,vv,xv,cv,F,hp.keep ho (fun i k hk=>hE k ((hD k).2 ⟨i,hk⟩)),hD⟩
theorem RefM.later {c:RefC} {W W' : World} {b:Nat} {D:Foot} {s:RunS} {o:OverD} {dead:Bool} (h:RefM c W b D s o dead) (hb:Below W.heap.size W W'):RefM c W' b D s o dead:=h.keep (Off.of_below hb Foot.none) fun _ _ h=>h
def ROk (c:RefC) (w:World) (b:Nat) (D:Foot) (s' : RunS) (o' : OverD) (dead' : Bool) (w' : World):Prop := ∃ D',RefM c w' b D' s' o' dead' /\ Off D w w' /\ ∀ k,D' k -> D k \/ w.heap.size <= k
theorem ROk.of {c:RefC} {W W' : World} {b:Nat} {s' : RunS} {o' : OverD} {dead' : Bool} {ov' av' vv' xv' cv' : Value} {F F' : Nat -> Foot} {D:Foot} (hD:∀ k,D k ↔ ∃ i,F i k)
  (h' : RefP c W' b s' o' dead' ov' av' vv' xv' cv' F') (ho:Off (fun k => ∃ i,F i k) W W') (hF:∀ i k,F' i k -> F i k \/ W.heap.size <= k):ROk c W b D s' o' dead' W' :=
 ⟨_,h'.mach,ho.mono (fun k _ hk=>(hD k).2 hk),fun k ⟨i,hi⟩=>(hF i k hi).imp (fun h=>(hD k).2 ⟨i,h⟩) id⟩
theorem ROk.same {c:RefC} {w:World} {b:Nat} {D:Foot} {s:RunS} {o:OverD} {dead:Bool} (h:RefM c w b D s o dead) {w' : World} (hb:Below w.heap.size w w'):ROk c w b D s o dead w':=⟨D,h.later hb,Off.of_below hb D,fun _ h=>.inl h⟩
theorem ROk.trans {c:RefC} {w w1 w2:World} {b:Nat} {D D1:Foot} {s:RunS} {o:OverD} {dead:Bool} (h1:Off D w w1) (hD:∀ k,D1 k -> D k \/ w.heap.size <= k) (h2:ROk c w1 b D1 s o dead w2):ROk c w b D s o dead w2:=by
 obtain ⟨D2,m2,o2,d2⟩:=h2
 refine ⟨D2,m2,Off.grow h1 o2 hD,fun k hk => ?_⟩
 rcases d2 k hk with h | h
 ·exact hD k h
 exact .inr (aJ h1.size h)
theorem RefP.one {c:RefC} {W W' : World} {b:Nat} {s s' : RunS} {o o' : OverD} {dead dead' : Bool} {ov av vv xv cv ov' av' vv' xv' cv' : Value} {F:Nat -> Foot} {D:Foot} (hD:∀ k,D k ↔ ∃ i,F i k) (h:RefP c W b s o dead ov av vv xv cv F)
  (h' : RefP c W' b s' o' dead' ov' av' vv' xv' cv' F) (ho:Off (Foot.one b) W W'):ROk c W b D s' o' dead' W' :=
 ROk.of hD h' (ho.mono fun k _ hk=>⟨0,(h.b0 k).2 hk⟩) fun i k hk=>.inl hk
theorem rEnd {c:RefC} {w:World} {b:Nat} {D:Foot} {s:RunS} {o:OverD} {dead:Bool} (hm:RefM c w b D s o dead) (h v t:Int) :
  Calls Tryz.prog 87 #[.pointer (some ⟨b,0,none⟩),.int .i64 h,.int .i64 v,.int .i64 t] w fun e w'=>e = .returned (.tuple #[])/\ROk c w b D s ⟨h,v,t⟩ true w':=by
 obtain ⟨ov,av,vv,xv,cv,F,hp,hD⟩:=hm
 have P1:=hp.put (o':=o) (dead':=true) 16 (.bool true) (by rfl) hp.out hp.arr hp.vis hp.val hp.cel hp.v64
 have P2:=P1.put (o':=⟨h,o.value,o.trap⟩) (dead':=true) 4 (.int .i64 h) (by rfl) P1.out P1.arr P1.vis P1.val P1.cel P1.v64
 have P3:=P2.put (o':=⟨h,v,o.trap⟩) (dead':=true) 5 (.int .i64 v) (by rfl) P2.out P2.arr P2.vis P2.val P2.cel P2.v64
 have P4:=P3.put (o':=⟨h,v,t⟩) (dead':=true) 6 (.int .i64 t) (by rfl) P3.out P3.arr P3.vis P3.val P3.cel P3.v64
 have HR:Hid (ROk c w b D s ⟨h,v,t⟩ true ((((w.setCell ⟨b,16,none⟩ (.bool true)).setCell ⟨b,4,none⟩ (.int .i64 h)).setCell ⟨b,5,none⟩ (.int .i64 v)).setCell ⟨b,6,none⟩ (.int .i64 t))):=h!
  (RefP.one hD hp P4 ((((Off.set w ⟨b,16,none⟩ _).trans (Off.set _ ⟨b,4,none⟩ _)).trans (Off.set _ ⟨b,5,none⟩ _)).trans (Off.set _ ⟨b,6,none⟩ _)))
 obtain ⟨l1,c1,f1⟩:=hp.box
 clear P1 P2 P3 P4 hp hD
 go_enter Tryz.func87,Tryz.ntmps87
 go_wp2
 --@A
 exact bodyPost_end (v:=.tuple #[]) (by simp [results,Tryz.results87,go_sem]) rfl ⟨rfl,HR.out⟩
def aIF (c:RefC) (w:World) (b:Nat) (D:Foot) (s:RunS) (e:Ending) (w' : World):Prop :=
 (s.steps < c.fuel/\e = .returned (.bool true)/\ROk c w b D { s with steps:=s.steps+1 } ⟨0,0,0⟩ false w') \/ (s.steps=c.fuel/\e = .returned (.bool false)/\ROk c w b D s ⟨3,0,0⟩ true w')
theorem aG0 {c:RefC} {w:World} {b:Nat} {D:Foot} {s:RunS} (hm:RefM c w b D s ⟨0,0,0⟩ false) (hs:s.steps <= c.fuel) (hf:c.fuel <= 200000) :
  Calls Tryz.prog 85 #[.pointer (some ⟨b,0,none⟩)] w (aIF c w b D s):=by
 have HM:=h! hm
 obtain ⟨ov,av,vv,xv,cv,F,hp,hD⟩:=hm
 have HP:=h! hp
 have HD:=h! hD
 obtain ⟨l1,c1,f1⟩:=hp.box
 obtain ⟨st,hst⟩ : ∃ st,st=s.steps:=⟨_,rfl⟩
 obtain ⟨fu,hfu⟩ : ∃ fu,fu=c.fuel:=⟨_,rfl⟩
 have k9:w.cell? ⟨b,9,none⟩=some (.int .i64 (st:Int)):=by rw [hst];exact c1 9
 have k12:w.cell? ⟨b,12,none⟩=some (.int .i64 (fu:Int)):=by rw [hfu];exact c1 12
 have HST:=h! hst
 have HFU:=h! hfu
 rw [<-hst, <-hfu] at hs
 rw [<-hfu] at hf
 have HF1:=h! f1
 clear c1 f1 hp hD hst hfu
 go_enter Tryz.func85,Tryz.ntmps85
 go_upto_region 1 with (fail)
 go_quiet (fail)
 have hbq:=eK (Below.refl w.heap.size w) nq
 have HBQ:=h! hbq
 have HMQ:=h! (HM.out.later hbq)
 have HPQ:=h! (HP.out.later hbq)
 generalize w.drewN nq=wq at *
 have q9:=(HBQ.out.cell (p:=⟨b,9,none⟩) l1).trans k9
 have f9:∀ o,wq.frozen? ⟨b,o,none⟩=false:=fun o=>(HBQ.out.frozen (p:=⟨b,o,none⟩) l1).trans (HF1.out o)
 clear hbq k9 k12
 by_cases hlt:st < fu
 ·have hd:decide ((fu:Int) <= (st:Int))=false:=by simp;omega
  have HR:Hid (ROk c wq b D { s with steps:=s.steps+1 } ⟨0,0,0⟩ false (wq.setCell ⟨b,9,none⟩ (.int .i64 ((st:Int)+1)))):=h! (by
   have P1:=HPQ.out.put (s' := { s with steps:=s.steps+1 }) (o':=⟨0,0,0⟩) (dead':=false) 9 (.int .i64 ((st:Int)+1)) (by rw [HST.out];rfl) HPQ.out.out HPQ.out.arr HPQ.out.vis HPQ.out.val HPQ.out.cel HPQ.out.v64
   exact RefP.one HD.out HPQ.out P1 (Off.set wq ⟨b,9,none⟩ _))
  --@A
  go_wp2
  go_ret
  exact .inl ⟨by rw [<-HST.out, <-HFU.out];exact hlt,rfl,ROk.trans (Off.of_below HBQ.out _) (fun k hk=>.inl hk) HR.out⟩
 ·have hd:decide ((fu:Int) <= (st:Int))=true:=by simp;omega
  --@B
  go_wp2_with fail
  refine (rEnd HMQ.out 3 0 0).mono ?_
  rintro e w2 ⟨rfl,hR⟩
  have HR:=h! hR
  clear hR
  go_wp2
  go_ret
  exact .inr ⟨by rw [<-HST.out, <-HFU.out];omega,rfl,ROk.trans (Off.of_below HBQ.out _) (fun k hk=>.inl hk) HR.out⟩
private theorem fG.alloc {w0 W:World} (h:fG w0 W) (o:Obj):fG w0 (W.alloc o):=h.later ((Below.refl _ _).alloc (aF _) o)
theorem rGet {c:RefC} {w:World} {b:Nat} {D:Foot} {s:RunS} {o:OverD} {dead:Bool} {id:Int} (hm:RefM c w b D s o dead) (hi:Ints w c.iv c.ids) (hr:Rise c.ids) (hid:id ∈ c.ids) :
  Calls Tryz.prog 83 #[.pointer (some ⟨b,0,none⟩),.int .i64 id] w fun e w'=>e = .returned (.int .i64 (s.vals id))/\Below w.heap.size w w':=by
 obtain ⟨ov,av,vv,xv,cv,F,hp,hD⟩:=hm
 obtain ⟨j,hj⟩:=bP hid
 have HI:=h! hi
 obtain ⟨ia,ic,hiv⟩:=hi.form
 have hmj:(c.ids.map s.vals)[j]? = some (s.vals id):=by rw [aU,hj];rfl
 obtain ⟨g,cap,hxv, -,hgl,hcell, -, -⟩:=hp.val.addr hmj
 rw [bD] at hxv
 have hjl:=(aE.1 hj).1
 obtain ⟨n,hn⟩ : ∃ n,n=c.ids.length:=⟨_,rfl⟩
 obtain ⟨l1,c1,f1⟩:=hp.box
 rw [<-hn] at hjl
 have K13:Hid (w.cell? ⟨b,13,none⟩=some (.slice ia n ic)):=h! (by rw [hn, <-hiv];exact c1 13)
 have K14:Hid (w.cell? ⟨b,14,none⟩=some (.slice (some ⟨g,0,none⟩) n cap)):=h! (by rw [hn, <-hxv];exact c1 14)
 have KX:=h! hcell
 rw [hiv, <-hn] at HI
 have HR:=h! hr
 have HJ:=h! hj
 obtain ⟨y,hy⟩ : ∃ y,y=s.vals id:=⟨_,rfl⟩
 rw [<-hy] at KX ⊢
 clear hp hD hj hid hi hiv hmj hxv hcell hr c1 f1 hn hy
 go_enter Tryz.func83,Tryz.ntmps83
 go_upto_region 1 with (fail)
 --@A
 refine wp_region_grow 10 (fun kz=>match kz with | 6=>.const (.int .i64 (j:Int)) | _=>.plain) (by kernel_rfl) (by kernel_rfl) ?_ (fun ν => ?_)
 ·(intro k;(try dsimp only);split <;> first | exact True.intro | (intro u w1 w2 hu hb;exact hu.below hb))
 simp only [aK,aR,aM,aT]
 iterate 6 (refine Grow.val (v := ?_) rfl rfl (fun wg hbg hdg => ?_) ?_;rotate_left;(focus ((have z14:=(hbg.cell (p:=⟨b,14,none⟩) l1).trans K14.out;have zx:=(hbg.cell (p:=⟨g,j,none⟩) hgl).trans KX.out);clear hbg hdg;first | (go_simp;done) | (go_simp;with_reducible rfl)));simp only [Act.put,aA,aC,aD])
 refine Grow.call (f := ?_) (args := ?_) rfl (fun wg => ?_) (fun wg hbg hdg => ?_) ?_
 rotate_left 2
 focus (first | (go_simp;done) | (go_simp;refine And.intro ?_ ?_ <;> with_reducible rfl) | (go_simp;with_reducible rfl))
 focus exact Calls.mono ((aE4 (aL l1 hbg.size) ((hbg.cell (p:=⟨b,13,none⟩) l1).trans K13.out) (HI.out.below hbg) HR.out HJ.out)) (fun e w2 ⟨he,hb2⟩=>⟨_,he,rfl,hb2⟩)
 simp only [Act.put,Known.val,aA,aC,aD]
 iterate 3 (refine Grow.val (v := ?_) rfl rfl (fun wg hbg hdg => ?_) ?_;rotate_left;(focus ((have z14:=(hbg.cell (p:=⟨b,14,none⟩) l1).trans K14.out;have zx:=(hbg.cell (p:=⟨g,j,none⟩) hgl).trans KX.out);clear hbg hdg;first | (go_simp;done) | (go_simp;with_reducible rfl)));simp only [Act.put,aA,aC,aD])
 intro wg hb hf hap
 clear hap
 clear hf
 --@B
 go_wp2
 go_ret
 exact ⟨rfl,hb⟩
end Go.Proofs.YtcmflfkpeodicaaGreat
