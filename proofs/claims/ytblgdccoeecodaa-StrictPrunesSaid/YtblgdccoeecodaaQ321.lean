/- What the claim needs,part 21. -/
import Derived.Test.YtblgdccoeecodaaQ320
import Derived.Test.YtblgdccoeecodaaQ312
namespace Go.Proofs.Ytblgdccoeecodaa
set_option linter.unusedSimpArgs false
set_option linter.unusedVariables false
open Go.RowKit
def zeroB:BlockD:=⟨[],[],⟨0,0,[],0⟩⟩
def zeroCells:List Value:=[.slice none 0 0,.slice none 0 0,.int .i64 0,.int .i64 0,.slice none 0 0,.int .i64 0]
theorem OBlock.zero {W:World}:OBlock W Foot.none zeroCells zeroB :=
 ⟨⟨_,_,_,Foot.none,Foot.none,Foot.none,rfl,OSl.nil none,OSl.nil none,⟨⟨_,rfl,OInts.nil none⟩,⟨by decide,by decide⟩,⟨by decide,by decide⟩,⟨by decide,by decide⟩⟩,fun _ h=>h.elim,fun _ h=>h.elim,fun _ h=>h.elim,fun _ h=>h,fun _ h=>h,fun _ h=>h⟩,fun _ h=>h.elim⟩
theorem madeChunk (n j:Nat) (hj:j < n):chunk (madeCells zeroCells.toArray (n * 6)).toList 6 j=zeroCells:=by
 unfold chunk madeCells
 apply List.ext_getElem?
 intro k
 rw [List.getElem?_take]
 by_cases hk:k < 6
 ·rw [if_pos hk,List.getElem?_drop]
  have h1:j * 6+k < n * 6:=by omega
  have h2:(j * 6+k) % 6=k:=by omega
  simp only [Array.toList_map,Array.toList_range,List.getElem?_map,List.getElem?_range h1,Option.map_some]
  have hs:zeroCells.toArray.size=6:=rfl
  rw [hs,h2]
  rcases k with _ | _ | _ | _ | _ | _ | k
  all_goals first | rfl | omega
 ·rw [if_neg hk,List.getElem?_eq_none (by show 6 <= k;omega)]
theorem oblocks_made {W:World} {base g n:Nat} (h:W.ownsRow base 56 6 (.slice (some ⟨g,0,none⟩) n n) n (madeCells zeroCells.toArray (n * 6)).toList) (hn:n <= 17592186044416) (hg:g < W.heap.size) :
  OBlocks W (Foot.one g) (.slice (some ⟨g,0,none⟩) n n) (List.replicate n zeroB):=by
 refine ⟨_,Foot.one g,fun _=>Foot.none,ORow.of_own (by rw [List.length_replicate];exact h) (by rw [List.length_replicate];exact hn) (fun k hk=>by cases hk;rfl) (fun k hk=>by cases hk;exact hg),fun j x hj => ?_,fun _ _ _ _ _ _ h=>h.elim,fun _ _ _ h=>h.elim,fun _ h=>h,fun _ _ _ h=>h.elim,fun k hk=>by cases hk;exact hg⟩
 have hjl:=(List.getElem?_eq_some_iff.1 hj).1
 rw [List.length_replicate] at hjl
 have hx:x=zeroB:=List.eq_of_mem_replicate (List.mem_of_getElem? hj)
 rw [hx,madeChunk n j hjl]
 exact OBlock.zero
theorem wpList_make_blocks {w:World} {ops:Array Oper} {rest:List Oper} {o:Oper} {a:Act} {Q:Exit -> Act -> World -> Prop} (hg:o.guard=none) (l c:Operand) (hop:o.op=Op.makeSlice 23 l c) (n:Nat) {L C:Int}
  (hl:a.eval l = .int .i64 L) (hc:a.eval c = .int .i64 C) (hL:L=n) (hC:C=n) (hn:n <= 100000)
  (hK:∀ w',OBlocks w' (Foot.one w.heap.size) (.slice (some ⟨w.heap.size,0,none⟩) n n) (List.replicate n zeroB) -> Below w.heap.size w w' -> wpList Try.prog ops Q rest (a.put o.dst (.slice (some ⟨w.heap.size,0,none⟩) n n)) w') :
  wpList Try.prog ops Q (o :: rest) a w:=by
 obtain ⟨ht,⟨i,hi,hz,hsz,hby⟩,hzc,hp⟩:=elBlock
 refine wpList_make_full w hg l c _ hop w.heap.size _ i _ 6 ht hi hz hsz .i64 .i64 L C n hl hc hL hC (by rw [hby];omega) (by unfold maxLen;omega) (Nat.le_refl _) fun w' h1 h2 => ?_
 have hlt:w.heap.size < w'.heap.size:=by
  rcases h1.2 with ⟨h,_⟩ | ⟨g,cap,cur,h,_,hh,_⟩
  ·cases h
  ·cases h;exact (Array.getElem?_eq_some_iff.1 hh).1
 exact hK w' (oblocks_made h1 (by omega) hlt) ((Below.refl _ _).grown h2 (Nat.le_refl _) (by simp))
theorem set6 {l:List Value} (h:l.length=6) (a b c d e f:Value):(((((l.set 0 a).set 1 b).set 2 c).set 3 d).set 4 e).set 5 f=[a,b,c,d,e,f]:=by
 match l,h with
 | [_,_,_,_,_,_],_=>rfl
def put6 (W:World) (g o:Nat) (a b c d e f:Value):World:=(((((W.setCell ⟨g,o,none⟩ a).setCell ⟨g,o+1,none⟩ b).setCell ⟨g,o+2,none⟩ c).setCell ⟨g,o+3,none⟩ d).setCell ⟨g,o+4,none⟩ e).setCell ⟨g,o+5,none⟩ f
theorem put6_off (W:World) (g o:Nat) (a b c d e f:Value):Off (Foot.one g) W (put6 W g o a b c d e f) :=
 (((((Off.set W ⟨g,o,none⟩ a).trans (Off.set _ ⟨g,o+1,none⟩ b)).trans (Off.set _ ⟨g,o+2,none⟩ c)).trans (Off.set _ ⟨g,o+3,none⟩ d)).trans (Off.set _ ⟨g,o+4,none⟩ e)).trans (Off.set _ ⟨g,o+5,none⟩ f)
theorem oblocks_put6 {W:World} {S:Foot} {v:Value} {xs:List BlockD} (h:OBlocks W S v xs) {j:Nat} {y x:BlockD} (hj:xs[j]? = some y) {g cap:Nat} (hv:v = .slice (some ⟨g,0,none⟩) xs.length cap)
  {a b c d e f:Value} {Fn:Foot} (hx:OBlock W Fn [a,b,c,d,e,f] x) (hF:Fn.off S):OBlocks (put6 W g (j * 6) a b c d e f) (fun k=>S k \/ Fn k) v (xs.set j x):=by
 obtain ⟨cs,G,F,hp⟩:=h
 have hjl:=(List.getElem?_eq_some_iff.1 hj).1
 have hn:0 < xs.length:=by omega
 have hG:G g:=by
  obtain ⟨g',cap',hv',hg', -⟩:=hp.row.addr hn
  rw [hv] at hv';cases hv';exact hg'
 have hsz:(put6 W g (j * 6) a b c d e f).heap.size=W.heap.size:=by simp [put6,World.setCell]
 have hrow:=(((((hp.row.set hv hn (j * 6+0) a).set hv hn (j * 6+1) b).set hv hn (j * 6+2) c).set hv hn (j * 6+3) d).set hv hn (j * 6+4) e).set hv hn (j * 6+5) f
 refine ⟨_,G,_,hp.put OBlock.nice hj x (Fj:=Fn) ?_ hrow (fun i hi hne => ?_) ?_ ?_ _ (fun k hk=>.inl hk) (fun k hk=>.inr hk) (fun k hk => ?_)⟩
 ·exact (put6_off W g (j * 6) a b c d e f).mono fun k _ hk=>.inl (by cases hk;exact hG)
 ·rw [chunk_set hne (by omega),chunk_set hne (by omega),chunk_set hne (by omega),chunk_set hne (by omega),chunk_set hne (by omega),chunk_set hne (by omega)]
 ·rw [chunk_set_self (by omega),chunk_set_self (by omega),chunk_set_self (by omega),chunk_set_self (by omega),chunk_set_self (by omega),chunk_set_self (by omega),set6 (chunk_len hp.row.len hjl)]
  exact OBlock.nice.off hx (put6_off W g (j * 6) a b c d e f) fun k h1 h2=>hF k h1 (by cases h2;exact hp.inG _ hG)
 ·exact fun k hk=>.inr (hF k hk)
 ·simp only [World.setCell,Array.size_modify]
  exact hk.elim (hp.lt k) (hx.lt k)
theorem OBlocks.open {W:World} {S:Foot} {v:Value} {xs:List BlockD} (h:OBlocks W S v xs) {j:Nat} {x:BlockD} (hj:xs[j]? = some x) :
  ∃ (g cap:Nat) (ap ai at_:Option Addr) (cp ci ct:Nat) (S1 S2 S3:Foot),v = .slice (some ⟨g,0,none⟩) xs.length cap/\g < W.heap.size/\S g/\BlockC W g (j * 6) x ap ai at_ cp ci ct/\(∀ o,W.frozen? ⟨g,o,none⟩=false) /\
   OPhis W S1 (.slice ap x.phis.length cp) x.phis/\OCode W S2 (.slice ai x.code.length ci) x.code/\OInts W S3 (.slice at_ x.term.to.length ct) x.term.to /\
   (∀ k,S1 k -> S k)/\(∀ k,S2 k -> S k)/\(∀ k,S3 k -> S k)/\S1.off S2/\S1.off S3/\S2.off S3/\(¬ S1 g /\ ¬ S2 g /\ ¬ S3 g) /\
   (∀ (W' : World) (S1' : Foot) (ps:List PhiD),Off S1 W W' -> OPhis W' S1' (.slice ap x.phis.length cp) ps -> (∀ k,S1' k -> S1 k \/ W.heap.size <= k) -> OBlocks W' (fun k=>S k \/ S1' k) v (xs.set j { x with phis:=ps })) /\
   (∀ (W' : World) (S2' : Foot) (ys:List InstrD),Off S2 W W' -> OCode W' S2' (.slice ai x.code.length ci) ys -> (∀ k,S2' k -> S2 k \/ W.heap.size <= k) -> OBlocks W' (fun k=>S k \/ S2' k) v (xs.set j { x with code:=ys })) /\
   (∀ (W' : World) (to:List Int),Off S3 W W' -> OInts W' S3 (.slice at_ x.term.to.length ct) to -> OBlocks W' S v (xs.set j { x with term := { x.term with to:=to } })):=by
 obtain ⟨cs,G,F,hp⟩:=h
 have hjl:=(List.getElem?_eq_some_iff.1 hj).1
 have hn:0 < xs.length:=by omega
 obtain ⟨g,cap,hv,hG, -, -,hgl,hcell,hfr⟩:=hp.row.addr hn
 obtain ⟨⟨pv,uv,t,S1,S2,S3,hch,h1,h2,h3,h12,h13,h23,i1,i2,i3⟩,hFl⟩:=hp.el j x hj
 obtain ⟨⟨tv,rfl,hto⟩,q1,q2,q3⟩:=h3
 obtain ⟨ap,cp,rfl⟩:=(h1.reads (R0:=PhiR) fun _ _ _ h=>h.reads).form
 obtain ⟨ai,ci,rfl⟩:=(h2.reads (R0:=InstrR) fun _ _ _ h=>h.reads).form
 obtain ⟨at_,ct,rfl⟩:=hto.ints.form
 have hc:∀ o u,o < 6 -> (chunk cs 6 j)[o]? = some u -> W.cell? ⟨g,j * 6+o,none⟩=some u:=fun o u ho hu=>hcell _ _ (by rw [<-chunk_at ho];exact hu)
 rw [hch] at hc
 have nG:∀ k,F j k -> ¬ G k:=hp.free j hjl
 have inS:∀ k,F j k -> S k:=fun k hk=>hp.inF j k hjl hk
 refine ⟨g,cap,ap,ai,at_,cp,ci,ct,S1,S2,S3,hv,hgl,hp.inG g hG,⟨hc 0 _ (by omega) rfl,hc 1 _ (by omega) rfl,hc 2 _ (by omega) rfl,hc 3 _ (by omega) rfl,hc 4 _ (by omega) rfl,hc 5 _ (by omega) rfl,h1.reads fun _ _ _ h=>h.reads,h2.reads fun _ _ _ h=>h.reads,hto.ints,q1,q2,q3⟩,hfr,h1,h2,hto,
  fun k hk=>inS k (i1 k hk),fun k hk=>inS k (i2 k hk),fun k hk=>inS k (i3 k hk),h12,h13,h23,⟨fun h=>nG g (i1 g h) hG,fun h=>nG g (i2 g h) hG,fun h=>nG g (i3 g h) hG⟩,fun W' S1' ps ho hps hS => ?_,fun W' S2' ys ho hys hS => ?_,fun W' to ho ht => ?_⟩
 ·have ho2:Off (G.or (F j)) W W':=ho.mono fun k _ hk=>.inr (i1 k hk)
  have hrow:=hp.row.off ho (fun k h1 h2=>nG k (i1 k h2) h1)
  refine ⟨cs,G,_,hp.put OBlock.nice hj { x with phis:=ps } (Fj:=fun k=>(S1' k \/ S2 k) \/ S3 k) ho2 hrow (fun _ _ _=>rfl) ?_ (fun k hk => ?_) _ (fun k hk=>.inl hk) (fun k hk => ?_) (fun k hk => ?_)⟩
  ·rw [hch]
   have a12:S1'.off S2:=fun k a b=>by
    rcases hS k a with c | c
    ·exact h12 k c b
    ·have:=h2.lt k b;omega
   have a13:S1'.off S3:=fun k a b=>by
    rcases hS k a with c | c
    ·exact h13 k c b
    ·have:=hto.lt k b;omega
   have k2:=h2.off OInstr.nice ho h12.symm
   have k3:=hto.off ho h13.symm
   exact ⟨⟨_,_,_,S1',S2,S3,rfl,hps,k2,⟨⟨_,rfl,k3⟩,q1,q2,q3⟩,a12,a13,h23,fun k h=>.inl (.inl h),fun k h=>.inl (.inr h),fun k h=>.inr h⟩,fun k hk=>by
    rcases hk with (hk | hk) | hk
    ·exact hps.lt k hk
    ·exact k2.lt k hk
    ·exact k3.lt k hk⟩
  ·rcases hk with (hk | hk) | hk
   ·rcases hS k hk with c | c
    ·exact .inl (i1 k c)
    ·exact .inr fun hs=>by have:=hp.lt k hs;omega
   ·exact .inl (i2 k hk)
   ·exact .inl (i3 k hk)
  ·rcases hk with (hk | hk) | hk
   ·exact .inr hk
   ·exact .inl (inS k (i2 k hk))
   ·exact .inl (inS k (i3 k hk))
  ·rcases hk with hk | hk
   ·exact Nat.lt_of_lt_of_le (hp.lt k hk) ho.size
   ·exact hps.lt k hk
 ·have ho2:Off (G.or (F j)) W W':=ho.mono fun k _ hk=>.inr (i2 k hk)
  have hrow:=hp.row.off ho (fun k h1 h2=>nG k (i2 k h2) h1)
  refine ⟨cs,G,_,hp.put OBlock.nice hj { x with code:=ys } (Fj:=fun k=>(S1 k \/ S2' k) \/ S3 k) ho2 hrow (fun _ _ _=>rfl) ?_ (fun k hk => ?_) _ (fun k hk=>.inl hk) (fun k hk => ?_) (fun k hk => ?_)⟩
  ·rw [hch]
   have a12:S1.off S2':=fun k a b=>by
    rcases hS k b with c | c
    ·exact h12 k a c
    ·have:=h1.lt k a;omega
   have a23:S2'.off S3:=fun k a b=>by
    rcases hS k a with c | c
    ·exact h23 k c b
    ·have:=hto.lt k b;omega
   have k1:=h1.off OPhi.nice ho h12
   have k3:=hto.off ho h23.symm
   exact ⟨⟨_,_,_,S1,S2',S3,rfl,k1,hys,⟨⟨_,rfl,k3⟩,q1,q2,q3⟩,a12,h13,a23,fun k h=>.inl (.inl h),fun k h=>.inl (.inr h),fun k h=>.inr h⟩,fun k hk=>by
    rcases hk with (hk | hk) | hk
    ·exact k1.lt k hk
    ·exact hys.lt k hk
    ·exact k3.lt k hk⟩
  ·rcases hk with (hk | hk) | hk
   ·exact .inl (i1 k hk)
   ·rcases hS k hk with c | c
    ·exact .inl (i2 k c)
    ·exact .inr fun hs=>by have:=hp.lt k hs;omega
   ·exact .inl (i3 k hk)
  ·rcases hk with (hk | hk) | hk
   ·exact .inl (inS k (i1 k hk))
   ·exact .inr hk
   ·exact .inl (inS k (i3 k hk))
  ·rcases hk with hk | hk
   ·exact Nat.lt_of_lt_of_le (hp.lt k hk) ho.size
   ·exact hys.lt k hk
 ·have ho2:Off (G.or (F j)) W W':=ho.mono fun k _ hk=>.inr (i3 k hk)
  have hrow:=hp.row.off ho (fun k h1 h2=>nG k (i3 k h2) h1)
  have hlt:∀ k,S k -> k < W'.heap.size:=fun k hk=>Nat.lt_of_lt_of_le (hp.lt k hk) ho.size
  refine ⟨cs,G,_,hp.put OBlock.nice hj { x with term := { x.term with to:=to } } (Fj:=F j) ho2 hrow (fun _ _ _=>rfl) ?_ (fun k hk=>.inl hk) _ (fun k hk=>hk) (fun k hk=>inS k hk) hlt⟩
  rw [hch]
  exact ⟨⟨_,_,_,S1,S2,S3,rfl,h1.off OPhi.nice ho h13,h2.off OInstr.nice ho h23,⟨⟨_,rfl,ht⟩,q1,q2,q3⟩,h12,h13,h23,i1,i2,i3⟩,fun k hk=>hlt k (inS k hk)⟩
end Go.Proofs.Ytblgdccoeecodaa
namespace Go.Proofs.Ytblgdccoeecodaa
set_option linter.unusedSimpArgs false
set_option linter.unusedVariables false
open Go.RowKit
theorem Turn.setCell {w:World} {b:Nat} (o:Nat) (v:Value):Turn [b] w (w.setCell ⟨b,o,none⟩ v) :=
 ⟨rfl,rfl,rfl,by simp [World.setCell],fun k hk hn=>Below.heap_setCell w ⟨b,o,none⟩ v k (by simpa using hn)⟩
theorem IMap.other {w:World} {b:Nat} {m:List (Int × Value)} (h:IMap w b m) {p:Addr} (v:Value) (hp:b ≠ p.block):IMap (w.setCell p v) b m:=h.keep (Below.heap_setCell w p v b hp)
structure OpenI (T:List (Int × Int)) (bc bm bq be:Nat) (A:Array Value) (us:List (Int × Int)) (W:World):Prop where
 map:IMap W bm (encT T)
 chk:Box W bc A
 ptr:Box W bq #[.pointer (some ⟨bc,0,none⟩)]
 err:Box W be #[.int .i64 (usesE T us)]
theorem OpenI.later {T:List (Int × Int)} {bc bm bq be:Nat} {A:Array Value} {us:List (Int × Int)} {W W' : World} (h:OpenI T bc bm bq be A us W) (hb:Below W.heap.size W W'):OpenI T bc bm bq be A us W' :=
 ⟨h.map.later hb,h.chk.later hb,h.ptr.later hb,h.err.later hb⟩
theorem OpenI.set {T:List (Int × Int)} {bc bm bq be:Nat} {A:Array Value} {us:List (Int × Int)} {W:World} (h:OpenI T bc bm bq be A us W) (u:Int × Int) (x:Int) (hx:usesE T (us ++ [u])=x) (hne:bm ≠ be/\bc ≠ be/\bq ≠ be) :
  OpenI T bc bm bq be A (us ++ [u]) (W.setCell ⟨be,0,none⟩ (.int .i64 x)) :=
 ⟨h.map.other _ hne.1,h.chk.other _ hne.2.1,h.ptr.other _ hne.2.2,by rw [hx];simpa using h.err.set 0 (.int .i64 x)⟩
theorem OpenI.same {T:List (Int × Int)} {bc bm bq be:Nat} {A:Array Value} {us:List (Int × Int)} {W:World} (h:OpenI T bc bm bq be A us W) (u:Int × Int) (hx:usesE T (us ++ [u])=usesE T us) :
  OpenI T bc bm bq be A (us ++ [u]) W:=⟨h.map,h.chk,h.ptr,by rw [hx];exact h.err⟩
set_option maxHeartbeats 3200000 in
theorem openAsk {W:World} {T:List (Int × Int)} {bc bm bq be:Nat} {vp vb:Value} {ar ce:Int} {us:List (Int × Int)} (u:Int × Int) (hne:bm ≠ be/\bc ≠ be/\bq ≠ be) (h:OpenI T bc bm bq be (chk vp vb ar ce bm) us W) :
  Calls Try.prog 80 #[.int .i64 u.1,.int .i64 u.2,.pointer (some ⟨bq,0,none⟩),.pointer (some ⟨be,0,none⟩)] W fun e W'=>e = .returned (.tuple #[])/\OpenI T bc bm bq be (chk vp vb ar ce bm) (us ++ [u]) W' /\ Turn [be] W W':=by
 have H:=Lib.hid h
 have HNE:=Lib.hid hne
 have HU:=Lib.hid (usesE_step T us u)
 obtain ⟨id,typ⟩:=u
 simp only at *
 have hq:=h.ptr.at 0 rfl
 have h4:=h.chk.at 4 (v:=.map (some bm)) rfl
 have he:=h.err
 have HI:=Lib.hid h.map
 have HMG:=Lib.hid (mget_enc T id)
 obtain ⟨x,hx⟩ : ∃ x,x=usesE T us:=⟨_,rfl⟩
 rw [<-hx] at he HU
 have HX:=Lib.hid hx
 obtain ⟨le,hce,hfe⟩:=he
 clear h hne hx
 cases hty:tyOf T id with
 | none =>
  rw [hty] at HMG
  have HU2:Hid (usesE T (us ++ [(id,typ)])=6):=Lib.hid (by rw [HU.out];unfold useE;simp only [hty])
  clear hty
  go_enter Try.func80,Try.ntmps80
  go_wp2_with (at_lookup;refine wpList_look (q:=.i64) (z:=.int .i64 0) (b:=bm) (mm:=encT T) (y:=id) rfl _ _ _ rfl Try.underlying97 Try.underlying3 (zeroInt _) rfl HI.out rfl ?_;rw [HMG.out])
  exact bodyPost_end (v:=.tuple #[]) (by simp [results,Try.results80,go_sem, *]) rfl ⟨rfl,H.out.set _ 6 HU2.out HNE.out,Turn.setCell _ _⟩
 | some t =>
  rw [hty] at HMG
  have HU2:Hid (usesE T (us ++ [(id,typ)])=if typ ≠ 0/\t ≠ typ/\x=0 then 3 else x):=Lib.hid (by rw [HU.out];unfold useE;simp only [hty])
  clear hty
  cases h1:(typ != 0) <;> cases h2:(t != typ) <;> cases h3:(x == 0)
  all_goals
   have H1:=Lib.hid h1
   have H2:=Lib.hid h2
   have H3:=Lib.hid h3
   go_enter Try.func80,Try.ntmps80
   go_wp2_with (at_lookup;refine wpList_look (q:=.i64) (z:=.int .i64 0) (b:=bm) (mm:=encT T) (y:=id) rfl _ _ _ rfl Try.underlying97 Try.underlying3 (zeroInt _) rfl HI.out rfl ?_;rw [HMG.out])
   first
    | exact bodyPost_end (v:=.tuple #[]) (by simp [results,Try.results80,go_sem, *]) rfl ⟨rfl,H.out.set _ 3 (by rw [HU2.out,if_pos];have e1:=H1.out;have e2:=H2.out;have e3:=H3.out;simp at e1 e2 e3;exact ⟨e1,e2,e3⟩) HNE.out,Turn.setCell _ _⟩
    | exact bodyPost_end (v:=.tuple #[]) (by simp [results,Try.results80,go_sem, *]) rfl ⟨rfl,H.out.same _ (by rw [HU2.out, <-HX.out,if_neg];have e1:=H1.out;have e2:=H2.out;have e3:=H3.out;simp at e1 e2 e3;rintro ⟨q1,q2,q3⟩;simp_all),Turn.refl _ _⟩
theorem openEnters:Enters Try.prog 80:=enters_of Try.func80 (by kernel_rfl) rfl
theorem form_args {f:FuncD} (h:formB f=true):∀ b ∈ f.blocks, ∀ x ∈ b.code,x.args.length <= (shp0 x.op).args.length:=by
 intro b hb x hx
 unfold formB at h
 simp only [Bool.and_eq_true,List.all_eq_true] at h
 obtain ⟨j,hj,rfl⟩:=List.getElem_of_mem hb
 have h1:=h.2 (f.blocks[j],j) (by rw [List.mem_iff_getElem?];exact ⟨j,by simp [hj]⟩)
 unfold blockOk at h1
 simp only [Bool.and_eq_true,List.all_eq_true] at h1
 have h2:=h1.1.2 x hx
 unfold instrOk at h2
 simp only [Bool.and_eq_true,beq_iff_eq] at h2
 exact Nat.le_of_eq h2.1.1.2
def OpenR (f:FuncD) (w:World) (e:Ending) (w' : World):Prop :=
 Below w.heap.size w w' /\ ∃ m,e = .returned (.tuple #[.map m,.int .i64 (checkF f)])/\(checkF f=0 -> ∃ bm,m=some bm/\IMap w' bm (encT (valsF f))/\w.heap.size <= bm)/\(checkF f ≠ 0 -> m=none)
theorem OpenR.bad {f:FuncD} {w w' : World} {c:Int} (hb:Below w.heap.size w w') (hc:checkF f=c) (h0:c ≠ 0):OpenR f w (.returned (.tuple #[.map none,.int .i64 c])) w':=by
 subst hc;exact ⟨hb,none,rfl,fun h=>absurd h h0,fun _=>rfl⟩
theorem OpenR.good {f:FuncD} {w w' : World} {bm:Nat} (hb:Below w.heap.size w w') (hc:checkF f=0) (hm:IMap w' bm (encT (valsF f))) (hl:w.heap.size <= bm):OpenR f w (.returned (.tuple #[.map (some bm),.int .i64 0])) w' :=
 ⟨hb,some bm,by rw [hc],fun _=>⟨bm,rfl,hm,hl⟩,fun h=>absurd hc h⟩
set_option maxHeartbeats 6400000 in
theorem irOpen {w:World} {v:Value} {f:FuncD} (hv:FuncV w v f):Calls Try.prog 54 #[v] w (OpenR f w):=by
 obtain ⟨a,b,rfl,hp,ha,hc,hB⟩:=hv
 obtain ⟨ap,cp,rfl⟩:=hp.form
 obtain ⟨ab,cb,rfl⟩:=hB.form
 have HP:=Lib.hid hp
 have HB:=Lib.hid hB
 have HCH:Hid (checkF f=if formB f && idsF f then usesE (valsF f) (usesF f) else 2):=Lib.hid rfl
 have HFM:=Lib.hid (formM_is f)
 obtain ⟨c,hcc⟩ : ∃ c,c=checkF f:=⟨_,rfl⟩
 rw [<-hcc] at HCH
 have HC:=Lib.hid hcc
 have HNP:Hid (f.params.length=f.params.length):=Lib.hid rfl
 clear hp hB ha hc hcc HNP
 obtain ⟨np,hnp⟩ : ∃ np,np=f.params.length:=⟨_,rfl⟩
 obtain ⟨nb,hnb⟩ : ∃ nb,nb=f.blocks.length:=⟨_,rfl⟩
 obtain ⟨ar,har⟩ : ∃ ar,ar=f.arrays:=⟨_,rfl⟩
 obtain ⟨ce,hce⟩ : ∃ ce,ce=f.cells:=⟨_,rfl⟩
 rw [<-hnp] at HP
 rw [<-hnb] at HB
 rw [<-hnp, <-hnb, <-har, <-hce]
 have HNP:=Lib.hid hnp
 have HNB:=Lib.hid hnb
 have HAR:=Lib.hid har
 have HCE:=Lib.hid hce
 clear hnp hnb har hce
 have hmm:=@run_makeMap Try.prog
 go_enter Try.func54,Try.ntmps54
 go_upto_region 2 with (fail)
 clear hmm
 have HI:Hid (IMap ((((w.alloc (.cells #[.slice ap np cp,.int .i64 ar,.int .i64 ce,.slice ab nb cb] 25)).alloc (.map #[] 0)).alloc (.cells #[.slice ap np cp,.int .i64 ar,.int .i64 ce,.slice ab nb cb,.map (some (w.heap.size+1))] 153)).alloc (.cells #[.pointer (some ⟨w.heap.size+1+1,0,none⟩)] 151)) (w.heap.size+1) []):=Lib.hid (by
  have h:=((IMap.new (w.alloc (.cells #[.slice ap np cp,.int .i64 ar,.int .i64 ce,.slice ab nb cb] 25))).alloc (.cells #[.slice ap np cp,.int .i64 ar,.int .i64 ce,.slice ab nb cb,.map (some (w.heap.size+1))] 153)).alloc (.cells #[.pointer (some ⟨w.heap.size+1+1,0,none⟩)] 151)
  simpa using h)
 have B1:Hid (Box ((((w.alloc (.cells #[.slice ap np cp,.int .i64 ar,.int .i64 ce,.slice ab nb cb] 25)).alloc (.map #[] 0)).alloc (.cells #[.slice ap np cp,.int .i64 ar,.int .i64 ce,.slice ab nb cb,.map (some (w.heap.size+1))] 153)).alloc (.cells #[.pointer (some ⟨w.heap.size+1+1,0,none⟩)] 151)) (w.heap.size) #[.slice ap np cp,.int .i64 ar,.int .i64 ce,.slice ab nb cb]):=Lib.hid ((((Box.new _ _ _).alloc _).alloc _).alloc _)
 have BC:Hid (Box ((((w.alloc (.cells #[.slice ap np cp,.int .i64 ar,.int .i64 ce,.slice ab nb cb] 25)).alloc (.map #[] 0)).alloc (.cells #[.slice ap np cp,.int .i64 ar,.int .i64 ce,.slice ab nb cb,.map (some (w.heap.size+1))] 153)).alloc (.cells #[.pointer (some ⟨w.heap.size+1+1,0,none⟩)] 151)) (w.heap.size+1+1) #[.slice ap np cp,.int .i64 ar,.int .i64 ce,.slice ab nb cb,.map (some (w.heap.size+1))]):=Lib.hid (by
  have h:=(Box.new ((w.alloc (.cells #[.slice ap np cp,.int .i64 ar,.int .i64 ce,.slice ab nb cb] 25)).alloc (.map #[] 0)) #[.slice ap np cp,.int .i64 ar,.int .i64 ce,.slice ab nb cb,.map (some (w.heap.size+1))] 153).alloc (.cells #[.pointer (some ⟨w.heap.size+1+1,0,none⟩)] 151)
  simpa using h)
 have BQ:Hid (Box ((((w.alloc (.cells #[.slice ap np cp,.int .i64 ar,.int .i64 ce,.slice ab nb cb] 25)).alloc (.map #[] 0)).alloc (.cells #[.slice ap np cp,.int .i64 ar,.int .i64 ce,.slice ab nb cb,.map (some (w.heap.size+1))] 153)).alloc (.cells #[.pointer (some ⟨w.heap.size+1+1,0,none⟩)] 151)) (w.heap.size+1+1+1) #[.pointer (some ⟨w.heap.size+1+1,0,none⟩)]):=Lib.hid (by
  have h:=Box.new (((w.alloc (.cells #[.slice ap np cp,.int .i64 ar,.int .i64 ce,.slice ab nb cb] 25)).alloc (.map #[] 0)).alloc (.cells #[.slice ap np cp,.int .i64 ar,.int .i64 ce,.slice ab nb cb,.map (some (w.heap.size+1))] 153)) #[.pointer (some ⟨w.heap.size+1+1,0,none⟩)] 151
  simpa using h)
 have HW:Hid (Below w.heap.size w ((((w.alloc (.cells #[.slice ap np cp,.int .i64 ar,.int .i64 ce,.slice ab nb cb] 25)).alloc (.map #[] 0)).alloc (.cells #[.slice ap np cp,.int .i64 ar,.int .i64 ce,.slice ab nb cb,.map (some (w.heap.size+1))] 153)).alloc (.cells #[.pointer (some ⟨w.heap.size+1+1,0,none⟩)] 151))):=Lib.hid (((((Below.refl _ _).alloc (Nat.le_refl _) _).alloc (by simp) _).alloc (by simp;omega) _).alloc (by simp;omega) _)
 generalize ((((w.alloc (.cells #[.slice ap np cp,.int .i64 ar,.int .i64 ce,.slice ab nb cb] 25)).alloc (.map #[] 0)).alloc (.cells #[.slice ap np cp,.int .i64 ar,.int .i64 ce,.slice ab nb cb,.map (some (w.heap.size+1))] 153)).alloc (.cells #[.pointer (some ⟨w.heap.size+1+1,0,none⟩)] 151))=w2 at *
 obtain ⟨bm,hbm⟩ : ∃ bm,bm=w.heap.size+1:=⟨_,rfl⟩
 obtain ⟨bc,hbc⟩ : ∃ bc,bc=w.heap.size+1+1:=⟨_,rfl⟩
 obtain ⟨bq,hbq⟩ : ∃ bq,bq=w.heap.size+1+1+1:=⟨_,rfl⟩
 obtain ⟨b1,hb1⟩ : ∃ b1,b1=w.heap.size:=⟨_,rfl⟩
 have n1:bc ≠ bm:=by omega
 have n2:bq ≠ bm:=by omega
 have n3:b1 ≠ bm:=by omega
 have n4:w.heap.size <= bm:=by omega
 rw [<-hbq, <-hbc] at BQ
 rw [<-hbc, <-hbm] at BC
 rw [<-hbm] at HI
 have B1' : Hid (Box w2 b1 #[.slice ap np cp,.int .i64 ar,.int .i64 ce,.slice ab nb cb]):=Lib.hid (by rw [hb1];exact B1.out)
 clear B1
 have B1:=B1'
 clear B1'
 have N:=Lib.hid (show bc ≠ bm/\bq ≠ bm/\b1 ≠ bm/\w.heap.size <= bm from ⟨n1,n2,n3,n4⟩)
 simp only [<-hbq]
 simp only [<-hbc]
 simp only [<-hbm]
 rw [show (Value.pointer (some ⟨w.heap.size,0,none⟩)) = .pointer (some ⟨b1,0,none⟩) by rw [hb1]]
 clear hbq hbc hbm hb1 n1 n2 n3 n4





 obtain ⟨lB1,cB1,fB1⟩:=B1.out
 obtain ⟨lBC,cBC,fBC⟩:=BC.out
 obtain ⟨lBQ,cBQ,fBQ⟩:=BQ.out
 go_wp2_with fail
 clear lB1 cB1 fB1 lBC cBC fBC lBQ cBQ fBQ
 have HFORM:Hid (Calls Try.prog 78 #[.pointer (some ⟨bc,0,none⟩)] w2 (StepR (formM f) bm w2)):=Lib.hid (chkFormed (f:=f) (ap:=ap) (cp:=cp) (ab:=ab) (cb:=cb) HW.out N.out.2.2.2 N.out.1 (by rw [<-HNP.out, <-HNB.out, <-HAR.out, <-HCE.out];exact BC.out) HI.out (by rw [<-HNP.out];exact HP.out) (by rw [<-HNB.out];exact HB.out))
 rw [HFM.out] at HFORM
 cases hfo:(formB f && idsF f)
 ·have HFO:=Lib.hid hfo
  simp only [hfo,Bool.false_eq_true,if_false] at HFORM
  clear hfo
  have HC2:Hid (c=2):=Lib.hid (by rw [HCH.out,HFO.out];rfl)
  refine HFORM.out.mono ?_
  rintro e w3 ⟨rfl,h3,t3⟩
  have T3:=Lib.hid (HW.out.trans (t3.below HW.out.size (fun x hx=>by simp at hx;subst hx;exact N.out.2.2.2)))
  clear h3 t3
  go_wp2
  go_ret2
  exact OpenR.bad T3.out (by rw [<-HC.out,HC2.out]) (by decide)
 ·have HFO:=Lib.hid hfo
  simp only [hfo,if_true] at HFORM
  clear hfo
  have HC2:Hid (c=usesE (valsF f) (usesF f)):=Lib.hid (by rw [HCH.out,HFO.out];rfl)
  refine HFORM.out.mono ?_
  rintro e w3 ⟨rfl,h3,t3⟩
  have T3:=Lib.hid t3
  replace HI:=Lib.hid (h3 _ rfl)
  replace HW:=Lib.hid (HW.out.trans (t3.below HW.out.size (fun x hx=>by simp at hx;subst hx;exact N.out.2.2.2)))
  replace B1:=Lib.hid (B1.out.turn t3 (by simpa using N.out.2.2.1))
  replace BC:=Lib.hid (BC.out.turn t3 (by simpa using N.out.1))
  replace BQ:=Lib.hid (BQ.out.turn t3 (by simpa using N.out.2.1))
  clear h3 t3 HFORM
  have HL0:=Lib.hid (⟨HI.out.lt,BC.out.lt,BQ.out.lt,HW.out.size⟩ : bm < w3.heap.size/\bc < w3.heap.size/\bq < w3.heap.size/\w.heap.size <= w3.heap.size)


  obtain ⟨lB1,cB1,fB1⟩:=B1.out
  obtain ⟨lBC,cBC,fBC⟩:=BC.out
  obtain ⟨lBQ,cBQ,fBQ⟩:=BQ.out
  go_upto_region 5 with (fail)
  have nBEB1:w3.heap.size ≠ b1:=fun e=>by have:=lB1;omega
  have nB1BE:b1 ≠ w3.heap.size:=fun e=>nBEB1 e.symm
  have nBEBC:w3.heap.size ≠ bc:=fun e=>by have:=lBC;omega
  have nBCBE:bc ≠ w3.heap.size:=fun e=>nBEBC e.symm
  have nBEBQ:w3.heap.size ≠ bq:=fun e=>by have:=lBQ;omega
  have nBQBE:bq ≠ w3.heap.size:=fun e=>nBEBQ e.symm
  have B1_:Box (w3.alloc (.cells #[.int .i64 0] 26)) (b1) #[.slice ap np cp,.int .i64 ar,.int .i64 ce,.slice ab nb cb]:=by simpa using (B1.out.alloc _)
  have BC_:Box (w3.alloc (.cells #[.int .i64 0] 26)) (bc) #[.slice ap np cp,.int .i64 ar,.int .i64 ce,.slice ab nb cb,.map (some bm)]:=by simpa using (BC.out.alloc _)
  have BQ_:Box (w3.alloc (.cells #[.int .i64 0] 26)) (bq) #[.pointer (some ⟨bc,0,none⟩)]:=by simpa using (BQ.out.alloc _)
  have BE_:Box (w3.alloc (.cells #[.int .i64 0] 26)) (w3.heap.size) #[.int .i64 0]:=by simpa using (Box.new w3 #[.int .i64 0] 26)
  have HI_:=(HI.out.alloc (.cells #[.int .i64 0] 26))
  have HW_:Below w.heap.size w (w3.alloc (.cells #[.int .i64 0] 26)):=(HW.out.alloc (by first | exact Nat.le_refl _ | exact HW.out.size | (simp only [World.size_alloc,World.size_setCell];have:=HW.out.size;omega)) _)
  clear lB1 cB1 fB1 lBC cBC fBC lBQ cBQ fBQ
  clear B1 BC BQ HI HW
  generalize (w3.alloc (.cells #[.int .i64 0] 26))=w4 at *
  have B1:=Lib.hid B1_
  clear B1_
  have BC:=Lib.hid BC_
  clear BC_
  have BQ:=Lib.hid BQ_
  clear BQ_
  have BE:=Lib.hid BE_
  clear BE_
  have HI:=Lib.hid HI_
  clear HI_
  have HW:=Lib.hid HW_
  clear HW_
  obtain ⟨lB1,cB1,fB1⟩:=B1.out
  obtain ⟨lBC,cBC,fBC⟩:=BC.out
  obtain ⟨lBQ,cBQ,fBQ⟩:=BQ.out
  obtain ⟨lBE,cBE,fBE⟩:=BE.out
  go_wp2_with fail
  clear lB1 cB1 fB1 lBC cBC fBC lBQ cBQ fBQ lBE cBE fBE
  have HEACH:Hid (Calls Try.prog 79 #[.agg #[.slice ap np cp,.int .i64 ar,.int .i64 ce,.slice ab nb cb],.func (.func 80) #[] #[.pointer (some ⟨bq,0,none⟩),.pointer (some ⟨w3.heap.size,0,none⟩)]] w4
    (EachR (usesF f) [w3.heap.size] (OpenI (valsF f) bc bm bq w3.heap.size (chk (.slice ap np cp) (.slice ab nb cb) ar ce bm)) w4)):=Lib.hid (by
   rw [HAR.out,HCE.out]
   refine irEach (w:=w) HW.out HNB.out HB.out (form_args (by have:=HFO.out;simp at this;exact this.1)) _ _ openEnters [w3.heap.size] (fun b hb=>by simp at hb;subst hb;exact ⟨HL0.out.2.2.2,BE.out.lt⟩) _ ?_ (fun us W W' h hb=>h.later hb) ?_
   ·refine ⟨HI.out, ?_,BQ.out,BE.out⟩
    rw [<-HAR.out, <-HCE.out];exact BC.out
   ·intro us u W h1 h2
    exact openAsk u ⟨by have:=HL0.out;omega,by have:=HL0.out;omega,by have:=HL0.out;omega⟩ h1)
  refine HEACH.out.mono ?_
  rintro e w5 ⟨rfl,hI5,hT5⟩
  obtain ⟨hi1,hi2,hi3,hi4⟩:=hI5
  rw [<-HC2.out] at hi4
  have HW5:=Lib.hid (HW.out.trans (hT5.below HW.out.size (fun x hx=>by simp at hx;subst hx;exact HL0.out.2.2.2)))
  have HI5:=Lib.hid hi1
  have BC5:=Lib.hid hi2
  have BQ5:=Lib.hid hi3
  have BE5:=Lib.hid hi4
  have e0:=hi4.at 0 (v:=.int .i64 c) rfl
  have e1:=hi3.at 0 (v:=.pointer (some ⟨bc,0,none⟩)) rfl
  have e2:=hi2.at 4 (v:=.map (some bm)) rfl
  clear hT5 hi1 hi2 hi3 hi4 HEACH
  cases hc0:(c == 0)
  ·have HC0:=Lib.hid hc0
   have hc1:(c != 0)=true:=by simp [bne,hc0]
   go_upto_region 7 with (fail)
   go_quiet (fail)
   go_wp2
   go_ret2
   exact OpenR.bad (below_drewN HW5.out _) HC.out.symm (by have:=HC0.out;simpa using this)
  ·have HC0:Hid (c=0):=Lib.hid (by simpa using hc0)
   have hc1:(c != 0)=false:=by simp [bne,hc0]
   go_wp2
   go_ret2
   exact OpenR.good HW5.out (by rw [<-HC.out,HC0.out]) HI5.out N.out.2.2.2
end Go.Proofs.Ytblgdccoeecodaa
