/- What the claim needs,part 43. -/
import Derived.Test.YtgmhnepmkaonaaaGreatPB42
namespace Go.Proofs.YtgmhnepmkaonaaaGreat
set_option linter.unusedSimpArgs false
set_option linter.unusedVariables false
open Go.RowKit
theorem MachP.over {base bs fuel:Nat} {W W' : World} {bm:Nat} {s:RunS} {o:OverD} {ov av vv cv:Value} {mv:Nat} {m:List (Int × Value)} {F:Nat -> Foot} (h:MachP base bs fuel W bm s ⟨0,0,0⟩ ov av vv cv mv m F) (ho:Off (Foot.one bm) W W')
  (hb:Box W' bm #[.int .i64 o.how,.int .i64 o.value,.int .i64 o.trap,ov,av,.int .i64 s.steps,.int .i64 s.checks,vv,.pointer (some ⟨bs,0,none⟩),.int .i64 fuel,.map (some mv),cv]):MachP base bs fuel W' bm s o ov av vv cv mv m F:=by
 have hne:∀ j,j ≠ 0 -> (F j).off (Foot.one bm):=fun j hj k hk e=>h.apart j 0 hj k hk ((h.b0 k).2 e)
 exact ⟨hb,h.b0,h.out.off ho (hne 1 (by omega)),h.arr.off OLis.nice ho (hne 2 (by omega)),h.vis.off ho (hne 3 (by omega)),h.mp.keep (ho.block _ h.mp.lt (hne 4 (by omega) _ ((h.m4 _).2 rfl))),h.m4,h.val,h.cel.off ho (hne 5 (by omega)),h.v64,h.apart,h.six,h.base⟩
def stepsAt (W:World) (bm:Nat):Nat:=match W.cell? ⟨bm,5,none⟩ with | some (.int _ n)=>n.toNat | _=>0
theorem Mach.stepsAt {base bs fuel:Nat} {W:World} {bm:Nat} {D:Foot} {s:RunS} (h:Mach base bs fuel W bm D s):stepsAt W bm=s.steps:=by
 obtain ⟨_,_,_,_,_,_,_,hP,_⟩:=h
 unfold Go.Proofs.YtgmhnepmkaonaaaGreat.stepsAt
 rw [hP.box.at 5 rfl]
 simp
def WholeR (f:FuncD) (base bs fuel:Nat) (w:World) (bm:Nat) (D:Foot) (s:RunS) (e:Ending) (w' : World):Prop :=
 ∃ (o:OverD) (s' : RunS) (ov av vv cv:Value) (mv:Nat) (m:List (Int × Value)) (F:Nat -> Foot),e = .returned (.tuple #[])/\Runs f fuel (-1) 0 s o s' /\ MachP base bs fuel w' bm s' o ov av vv cv mv m F/\Off D w w' /\ ∀ i k,F i k -> D k \/ w.heap.size <= k
set_option maxHeartbeats 6400000 in
set_option maxRecDepth 100000 in
theorem wholeC {base bs fuel bm:Nat} {w:World} {D:Foot} {s:RunS} {f:FuncD} (hM:Mach base bs fuel w bm D s) (hB:base <= w.heap.size) (hE:Env f base w bs) (hc:checkF f=0) (hF:FaultR f 0 0) (hfu:fuel <= 200000) (hG:GoodS f fuel s) (hV:∀ n ∈ s.visits,n <= s.steps+1) :
  Calls Tryz.prog 63 #[.pointer (some ⟨bm,0,none⟩)] w (WholeR f base bs fuel w bm D s):=by
 have hmf:∀ (fn:Fn) (first cap:Array Value) (w:World),(Instr.makeFunc fn first cap).run Tryz.prog w = .ok (.func fn first cap) w:=fun _ _ _ _=>rfl
 have HM:=Lib.hid hM
 have HB:=Lib.hid hB
 have HE:=Lib.hid hE
 have HC:=Lib.hid hc
 have HF:=Lib.hid hF
 have HG:=Lib.hid hG
 have HV:=Lib.hid hV
 have hlt:=hM.lt
 have HLT:=Lib.hid hlt
 clear hM hB hE hc hF hG hV hlt
 go_enter_defers Tryz.func63,Tryz.ntmps63
 go_wp2_with fail
 go_loopw [2,3] (fun fr at_ wr => ∃ (src:Int) (a:Nat) (s1:RunS),fr = .int .i64 src/\at_ = .int .i64 a/\In f src a/\(∀ o s',Runs f fuel src a s1 o s' -> Runs f fuel (-1) 0 s o s')/\GoodS f fuel s1/\(∀ n ∈ s1.visits,n <= s1.steps+1) /\ ∃ D1,Mach base bs fuel wr bm D1 s1/\Off D w wr/\(∀ k,D1 k -> D k \/ w.heap.size <= k) /\ ¬ D1 w.heap.size/\Box wr w.heap.size #[.pointer (some ⟨bm,0,none⟩)]) (fun _ _ W=>fuel - stepsAt W bm)
 case atStart=>exact ⟨-1,0,s,rfl,rfl,.inl ⟨rfl,rfl⟩,fun _ _ h=>h,HG.out,HV.out,D,HM.out.alloc _,Off.alloc _ _ _,fun k h=>.inl h,fun h=>by have:=HLT.out _ h;omega,Box.new _ _ _⟩
 case round =>
  obtain ⟨src,a,s1,rfl,rfl,hin,hru,hg1,hv1,D1,hm1,ho1,hd1,hb1,hB1⟩:=hrel
  have hal:=hin.lt HC.out
  obtain ⟨x,hx⟩ : ∃ x,f.blocks[a]? = some x:=⟨_,List.getElem?_eq_getElem hal⟩
  have HIN:=Lib.hid hin
  have HRU:=Lib.hid hru
  have HG1:=Lib.hid hg1
  have HV1:=Lib.hid hv1
  have HM1:=Lib.hid hm1
  have HO1:=Lib.hid ho1
  have HD1:=Lib.hid hd1
  have HN1:=Lib.hid hb1
  have B1:=Lib.hid hB1
  have HX:=Lib.hid hx
  have HSR:=Lib.hid (hin.phis HC.out HF.out hx)
  have HEW:Hid (Env f base wr bs):=Lib.hid (HE.out.later (ho1.below HB.out (fun k _ hk=>HM.out.base k hk)))
  have hBw:base <= wr.heap.size:=Nat.le_trans HB.out ho1.size
  have HVB:Hid (∀ n ∈ s1.visits,n <= 1000000):=Lib.hid (fun n hn=>by have:=hv1 n hn;have:=hg1.stp;omega)
  clear hin hru hg1 hv1 hm1 ho1 hd1 hb1 hB1 hx hal
  obtain ⟨l1,c1,f1⟩:=B1.out
  go_wp2_with fail
  clear l1 c1 f1
  refine (blockC HM1.out hBw HEW.out HC.out hfu HG1.out HVB.out HX.out HSR.out).mono ?_
  rintro e w2 h9
  cases hbl:blockR f fuel src a s1 with
  | over o s2 =>
   rw [hbl] at h9
   obtain ⟨rfl,D2,hm2,ho2,hd2⟩:=h9
   have HRUN:Hid (Runs f fuel (-1) 0 s o s2):=Lib.hid (HRU.out o s2 (Runs.over hbl))
   have B2:=Lib.hid (B1.out.off ho2 HN1.out)
   have HO2:Hid (Off D w w2):=Lib.hid (Off.grow HO1.out ho2 HD1.out)
   have HD2:Hid (∀ k,D2 k -> D k \/ w.heap.size <= k):=Lib.hid (fun k hk=>by
    rcases hd2 k hk with h | h
    ·exact HD1.out k h
    ·exact .inr (Nat.le_trans HO1.out.size h))
   have HN2:Hid (¬ D2 w.heap.size):=Lib.hid (fun h=>(hd2 _ h).elim HN1.out (fun h=>by have:=B1.out.lt;omega))
   obtain ⟨ov,av,vv,cv,mv,m,F,hP,hDF⟩:=hm2
   have HP:=Lib.hid hP
   have HDF:=Lib.hid hDF
   clear ho2 hd2 hP hDF hbl
   unfold overE
   go_wp2
   refine leaves_cons (f:=104) (args:=#[.pointer (some ⟨w.heap.size,0,none⟩)]) (by simp) (by simp [go_sem]) ?_
   refine (catchC B2.out HP.out.box (fun e=>HN2.out ((HDF.out _).2 ⟨0,(HP.out.b0 _).2 e⟩))).mono ?_
   rintro e u' w3 ⟨rfl,rfl,hbx,hof⟩
   have HBX:=Lib.hid hbx
   have HOF:=Lib.hid hof
   clear hbx hof
   simp [Leaves,settle,results,Tryz.results63,go_sem]
   refine ⟨o,s2,ov,av,vv,cv,mv,m,F,rfl,HRUN.out,HP.out.over HOF.out HBX.out,Off.grow HO2.out HOF.out (fun k hk=>by cases hk;exact HD2.out _ ((HDF.out _).2 ⟨0,(HP.out.b0 _).2 rfl⟩)),fun i k hk=>HD2.out k ((HDF.out k).2 ⟨i,hk⟩)⟩
  | go to s2 =>
   rw [hbl] at h9
   obtain ⟨rfl,D2,hm2,ho2,hd2⟩:=h9
   have hgo:=block_go HC.out HG1.out HX.out HSR.out hbl
   obtain ⟨t,rfl,ht⟩:=hgo.to
   have HGO:=Lib.hid hgo
   have HT:=Lib.hid ht
   have HBL:=Lib.hid hbl
   have B2:=Lib.hid (B1.out.off ho2 HN1.out)
   have HO2:Hid (Off D w w2):=Lib.hid (Off.grow HO1.out ho2 HD1.out)
   have HD2:Hid (∀ k,D2 k -> D k \/ w.heap.size <= k):=Lib.hid (fun k hk=>by
    rcases hd2 k hk with h | h
    ·exact HD1.out k h
    ·exact .inr (Nat.le_trans HO1.out.size h))
   have HN2:Hid (¬ D2 w.heap.size):=Lib.hid (fun h=>(hd2 _ h).elim HN1.out (fun h=>by have:=B1.out.lt;omega))
   have HM2:=Lib.hid hm2
   have HVN:Hid (∀ n ∈ s2.visits,n <= s2.steps+1):=Lib.hid (fun n hn=>by
    rw [hgo.visits] at hn
    obtain ⟨i,hi⟩:=List.getElem?_of_mem hn
    rw [List.getElem?_modify] at hi
    have hs:=hgo.steps
    cases hq:s1.visits[i]? with
    | none=>rw [hq] at hi;simp at hi
    | some q =>
     rw [hq] at hi
     have:=HV1.out q (List.mem_of_getElem? hq)
     simp at hi
     split at hi <;> omega)
   clear ho2 hd2 hm2 hgo ht hbl
   have hal:a < f.blocks.length:=HIN.out.lt HC.out
   go_wp2
   go_roundw
   case rel=>exact ⟨a,t,s2,rfl,rfl,.inr ⟨a,rfl,hal,HT.out⟩,fun o s' h=>HRU.out o s' (Runs.go HBL.out (by simpa using h)),HGO.out.good,HVN.out,D2,HM2.out,HO2.out,HD2.out,HN2.out,B2.out⟩
   case measure =>
    rw [HM2.out.stepsAt,HM1.out.stepsAt]
    have:=HGO.out.steps
    have:=HGO.out.good.stp
    omega
end Go.Proofs.YtgmhnepmkaonaaaGreat
namespace Go.Proofs.YtgmhnepmkaonaaaGreat
set_option linter.unusedSimpArgs false
set_option linter.unusedVariables false
open Go.RowKit
def InputV (W:World) (v:Value) (i:InputD):Prop := ∃ a b,v = .agg #[a,b]/\Ints W a i.args/\Lists W b i.arrays
theorem InputV.below {W W' : World} {v:Value} {i:InputD} (h:InputV W v i) (hb:Below W.heap.size W W'):InputV W' v i:=by
 obtain ⟨a,b,e,h1,h2⟩:=h
 exact ⟨a,b,e,h1.below hb,h2.below hb⟩
set_option maxHeartbeats 6400000 in
theorem listC {w:World} {v:Value} {i:InputD} {n:Nat} (hv:InputV w v i):Calls Tryz.prog 62 #[v,.int .i64 n] w (CloneR ((i.arrays.getD n []).take 4096) w):=by
 obtain ⟨a,b,rfl, -,hb⟩:=hv
 obtain ⟨vs,ab,cb,bb,ob,rfl,hc,hm,hm2,hbl,hcells,hints⟩:=hb.parts
 obtain ⟨aa,haa⟩ : ∃ aa,aa=i.arrays:=⟨_,rfl⟩
 rw [<-haa] at hbl hcells hints ⊢
 rw [<-haa] at hc hm2
 obtain ⟨l,hl⟩ : ∃ l,l=aa.length:=⟨_,rfl⟩
 rw [<-hl] at hbl hcells hints hc hm2
 rw [<-hl]
 clear hb haa
 by_cases hlt:n < l
 ·have ht:decide ((l:Int) <= (n:Int))=false:=by simp;omega
  obtain ⟨rfl,hbw⟩:=hbl (by omega)
  have hx:=hcells n hlt
  have hi:=hints n hlt
  obtain ⟨ax,cx,hxe⟩:=hi.form
  rw [hxe] at hx hi
  obtain ⟨xs,hxs⟩ : ∃ xs,xs=aa.getD n []:=⟨_,rfl⟩
  rw [<-hxs] at hx hi ⊢
  obtain ⟨m,hmm⟩ : ∃ m,m=xs.length:=⟨_,rfl⟩
  obtain ⟨ax2,cx2,bx,ox,hxe2,hcm,hcc, -, -⟩:=hi.parts
  cases hxe2
  rw [<-hmm] at hx hi hcm
  have HI:=Lib.hid hi
  have HMM:=Lib.hid hmm
  have hb64:=hi.le
  rw [<-hmm] at hb64
  clear hcells hints hbl hl hxs hxe hi hmm
  go_enter Tryz.func62,Tryz.ntmps62
  go_upto_region 1 with (fail)
  have B2:Hid (Box (w.alloc (.cells #[a,.slice (some ⟨bb,ob,none⟩) l cb] 44)) (w.heap.size) #[a,.slice (some ⟨bb,ob,none⟩) l cb]):=Lib.hid (by simpa using (Box.new w #[a,.slice (some ⟨bb,ob,none⟩) l cb] 44))
  have HW:Hid (Below w.heap.size w (w.alloc (.cells #[a,.slice (some ⟨bb,ob,none⟩) l cb] 44))):=Lib.hid ((Below.refl _ _).alloc (Nat.le_refl _) _)
  generalize (w.alloc (.cells #[a,.slice (some ⟨bb,ob,none⟩) l cb] 44))=wv at *
  obtain ⟨lB2,cB2,fB2⟩:=B2.out
  have hx1:=(HW.out.cell (p:=⟨bb,ob+n,none⟩) hbw).trans hx
  clear hx
  obtain ⟨k,hk⟩ : ∃ k,k=min m 4096:=⟨_,rfl⟩
  have hmin:(min (m:Int) 4096).toNat=k:=by omega
  have hkm:k <= m:=by omega
  have HQ:Hid (xs.take 4096=xs.take k):=Lib.hid (by
   rw [hk,HMM.out]
   by_cases h4:xs.length <= 4096
   ·rw [Nat.min_eq_left h4,List.take_of_length_le h4,List.take_length]
   ·rw [Nat.min_eq_right (by omega)])
  clear hk
  go_upto_region 4 with (fail)
  go_wp2_with fail
  clear lB2 cB2 fB2
  refine (cloneI ((HI.out.take (k:=k) (by have:=HMM.out;omega)).below HW.out)).mono ?_
  rintro e w2 ⟨u,S,rfl,ho,hf,hb⟩
  have HO:=Lib.hid ho
  have HF:=Lib.hid hf
  have HB:=Lib.hid hb
  clear ho hf hb
  go_wp2
  go_ret
  exact ⟨u,S,rfl,by rw [HQ.out];exact HO.out,fun k hk=>Nat.le_trans HW.out.size (HF.out k hk),HW.out.trans (HB.out.mono HW.out.size)⟩
 ·have ht:decide ((l:Int) <= (n:Int))=true:=by simp;omega
  have hnil:(aa.getD n []).take 4096=[]:=by rw [List.getD_eq_getElem?_getD,List.getElem?_eq_none (by omega)];rfl
  have HN:=Lib.hid hnil
  clear hcells hints hbl hl hnil
  go_enter Tryz.func62,Tryz.ntmps62
  go_upto_region 1 with (fail)
  have B2:Hid (Box (w.alloc (.cells #[a,.slice ab l cb] 44)) (w.heap.size) #[a,.slice ab l cb]):=Lib.hid (by simpa using (Box.new w #[a,.slice ab l cb] 44))
  have HW:Hid (Below w.heap.size w (w.alloc (.cells #[a,.slice ab l cb] 44))):=Lib.hid ((Below.refl _ _).alloc (Nat.le_refl _) _)
  generalize (w.alloc (.cells #[a,.slice ab l cb] 44))=wv at *
  obtain ⟨lB2,cB2,fB2⟩:=B2.out
  go_wp2
  go_ret
  exact ⟨_,Foot.none,rfl,by rw [HN.out];exact OInts.nil none,fun k hk=>hk.elim,HW.out⟩
theorem OLists.lists {W:World} {S:Foot} {v:Value} {xs:List (List Int)} (h:OLists W S v xs):Lists W v xs:=by
 obtain ⟨cs,G,F,hp⟩:=h
 have hl:=hp.row.row.len
 refine ⟨cs,by omega,hp.row.row,fun j hj => ?_⟩
 obtain ⟨u,hu,ho⟩:=hp.el j _ (List.getElem?_eq_getElem hj)
 have hc0:cs[j]? = some u:=by
  have h1:=chunk_at (cs:=cs) (size:=1) (j:=j) (i:=0) (by omega)
  rw [hu] at h1
  simpa using h1.symm
 have e1:cs.getD j undef=u:=by rw [List.getD_eq_getElem?_getD,hc0];rfl
 have e2:xs.getD j []=xs[j]:=by rw [List.getD_eq_getElem?_getD,List.getElem?_eq_getElem hj];rfl
 rw [e1,e2]
 exact ho.ints
theorem MachP.arrs {base bs fuel:Nat} {W W1:World} {bm:Nat} {s:RunS} {ov av vv cv u:Value} {mv:Nat} {m:List (Int × Value)} {F:Nat -> Foot} {G:Foot} {xs:List (List Int)} (h:MachP base bs fuel W bm s ⟨0,0,0⟩ ov av vv cv mv m F) (ho:Off (F 2) W W1) (hG:∀ k,G k -> F 2 k \/ W.heap.size <= k) (hB:base <= W.heap.size)
  (hu:OLists W1 G u xs):MachP base bs fuel (W1.setCell ⟨bm,4,none⟩ u) bm { s with arrays:=xs } ⟨0,0,0⟩ ov u vv cv mv m (newF F 2 G):=by
 have hne:∀ j,j ≠ 2 -> (F j).off (F 2):=fun j hj=>h.apart j 2 hj
 have hap:=newF_apart (i:=2) (G:=G) h.apart (fun _ _ hk=>h.lt hk) hG
 have hoff:=Off.set W1 ⟨bm,4,none⟩ u
 have hb0:newF F 2 G 0 bm:=by rw [newF_ne F 2 G (by omega)];exact (h.b0 bm).2 rfl
 have hq:∀ j,j ≠ 0 -> (newF F 2 G j).off (Foot.one bm):=fun j hj k hk e=>hap j 0 hj k hk (by cases e;exact hb0)
 have hq' : ∀ j,j ≠ 0 -> j ≠ 2 -> (F j).off (Foot.one bm):=fun j hj hj1=>by have h9:=hq j hj;rwa [newF_ne F 2 G hj1] at h9
 have hbx:=(h.box.off ho (fun e=>h.apart 0 2 (by omega) _ ((h.b0 _).2 rfl) e)).set 4 u
 refine ⟨hbx,by rw [newF_ne F 2 G (by omega)];exact h.b0, ?_, ?_, ?_, ?_, ?_,h.val, ?_,h.v64,hap, ?_, ?_⟩
 ·rw [newF_ne F 2 G (by omega)];exact (h.out.off ho (hne 1 (by omega))).off hoff (hq' 1 (by omega) (by omega))
 ·have h9:=hq 2 (by omega)
  rw [newF_at] at h9 ⊢
  exact hu.off OLis.nice hoff h9
 ·rw [newF_ne F 2 G (by omega)];exact (h.vis.off ho (hne 3 (by omega))).off hoff (hq' 3 (by omega) (by omega))
 ·have h9:=h.mp.keep (ho.block _ h.mp.lt (fun hk=>h.apart 4 2 (by omega) _ ((h.m4 _).2 rfl) hk))
  exact h9.keep (hoff.block _ h9.lt (hq' 4 (by omega) (by omega) _ ((h.m4 _).2 rfl)))
 ·rw [newF_ne F 2 G (by omega)];exact h.m4
 ·rw [newF_ne F 2 G (by omega)];exact (h.cel.off ho (hne 5 (by omega))).off hoff (hq' 5 (by omega) (by omega))
 ·intro j k hk
  unfold newF at hk
  by_cases e:j=2
  ·omega
  ·rw [if_neg e] at hk;exact h.six j k hk
 ·intro j k hk
  unfold newF at hk
  by_cases e:j=2
  ·rw [if_pos e] at hk
   rcases hG k hk with h9 | h9
   ·exact h.base 2 k h9
   ·omega
  ·rw [if_neg e] at hk;exact h.base j k hk
theorem GoodS.start {f:FuncD} {i:InputD} {fuel:Nat} (hc:checkF f=0):GoodS f fuel (startS f i):=by
 refine ⟨?_, ?_,fun a ha => ?_,Nat.zero_le _,Nat.le_refl _,Nat.zero_le _, ?_,fun id ht => ?_⟩
 ·show ((List.range f.arrays.toNat).map _).length=_
  rw [List.length_map,List.length_range]
 ·show (List.replicate _ _).length=_
  rw [List.length_replicate]
 ·obtain ⟨k, -,rfl⟩:=List.mem_map.1 ha
  rw [List.length_take];omega
 ·show (List.replicate _ _).length=_
  rw [List.length_replicate]
 ·show argI f i.args id=0 \/ argI f i.args id=1
  unfold argI
  split
  ·rename_i h
   have hm:(id,f.params.getD id.toNat 0) ∈ valsF f:=by
    unfold valsF parT
    refine List.mem_append_left _ (List.mem_map.2 ⟨(f.params.getD id.toNat 0,id.toNat), ?_, ?_⟩)
    ·rw [List.mem_zipIdx_iff_getElem?]
     exact list_at f.params id.toNat (by omega)
    ·show (((id.toNat:Nat):Int),f.params.getD id.toNat 0)=_
     rw [Int.toNat_of_nonneg h.1]
   rw [tyOf_of_mem (vals_nodup hc) hm] at ht
   injection ht with ht
   rw [if_pos ht]
   exact flagI_two _
  ·exact .inl rfl
end Go.Proofs.YtgmhnepmkaonaaaGreat
