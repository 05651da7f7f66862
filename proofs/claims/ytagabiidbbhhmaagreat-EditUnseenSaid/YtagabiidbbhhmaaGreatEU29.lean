/- Part 29. -/
import Derived.Test.YtagabiidbbhhmaaGreatEU28
namespace Go.Proofs.YtagabiidbbhhmaaGreat
set_option linter.all false
open Go.RowKit
section
variable {P:Program} {w:World}
theorem IMap.lookup0 {t k e:TypeId} {q:IntKind} {b:Nat} {m:List (Int × Value)} (h:IMap w b m) (ht:P.underlying t=some (.map k e)) (hk:P.underlying k=some (.int q)) {z:Value} (hz:(zeroValue e).run P w = .ok z w) (x:Int) :
  (Instr.lookup t (.map (some b)) (.int .i64 x) false).run P w = .ok ((mget m x).getD z) w:=by
 obtain ⟨es,c,hh,hm,_⟩:=h.ex
 have hf:=mD (P:=P) (w:=w) hk x hm
 unfold Instr.lookup
 have hg:(Sem.getObj b Sem.pure:Sem Obj).run P w = .ok (.map es c) w:=by simp [Sem.run,hh]
 rw [nY]
 simp only [Sem.run_bind,run_underlying ht,Result.andThen,getObj,hg,Sem.run_pure,lE hk,hf]
 cases hi:(m.findIdx? (fun p=>p.1 == x)) with
 | none=>simp [hz,Result.andThen,Sem.run_pure]
 | some j =>
  simp only [dO]
  cases hj:m[j]? with
  | none=>simp [hz,Result.andThen,Sem.run_pure]
  | some p=>simp [Result.andThen,Sem.run_pure]
variable {ops:Array Oper} {rest:List Oper} {o:Oper} {a:Act} {Q:Exit -> Act -> World -> Prop}
theorem lI (hg:o.guard=none) (m x:Operand) (t:TypeId) (hop:o.op=Op.lookup t m x false) {k e:TypeId} {q:IntKind} (ht:P.underlying t=some (.map k e)) (hk:P.underlying k=some (.int q)) {z:Value} (hz:(zeroValue e).run P w = .ok z w)
  {b:Nat} {mm:List (Int × Value)} (hm:a.eval m = .map (some b)) (h:IMap w b mm) {y:Int} (hx:a.eval x = .int .i64 y) (hK:wpList P ops Q rest (a.put o.dst ((mget mm y).getD z)) w):wpList P ops Q (o :: rest) a w:=by
 refine wpList_plain hg fun K' hK' => ?_
 unfold Oper.wp
 simp [execOp,hop,hm,hx,h.lookup0 ht hk hz y,Result.andThen]
 exact hK' _ _ hK
end
private theorem fN.alloc {w0 W:World} (h:fN w0 W) (o:Obj):fN w0 (W.alloc o):=h.later ((Below.refl _ _).alloc (aC _) o)
theorem qK:entF gK=[(0,0,0)]:=by decide
section
open Go.RowKit
def jK (f:FuncD) (t b:Nat):List (List Int):=(List.range f.blocks.length).map fun u=>natI (if u < t then fX f f.blocks.length 0 u else if u=t then fX f b 0 u else [])
theorem mT (f:FuncD) (t b:Nat):(jK f t b).length=f.blocks.length:=by simp [jK]
theorem uQ {f:FuncD} {t b:Nat} (h:t < f.blocks.length):(jK f t b)[t]? = some (natI (fX f b 0 t)):=by simp [jK,h]
theorem tG (f:FuncD):jK f 0 0=List.replicate f.blocks.length []:=by
 apply bG
 intro t
 by_cases h:t < f.blocks.length
 ·simp only [jK,aO,dL h,cP]
  rw [List.getElem?_replicate,if_pos h]
  by_cases e:t=0 <;> simp [e,natI,iK]
 rw [aT (by rw [mT];omega),aT (by simp;omega)]
theorem pT (f:FuncD) (b t:Nat):fX f (b+1) 0 t=fX f b 0 t ++ (if (toB f b).contains t then [b] else []):=by
 rw [iK,iK,eQ,dZ]
 simp only [List.filter_cons,List.filter_nil]
theorem aAD {f:FuncD} {t b:Nat} (h:(toB f b).contains t=false):jK f t (b+1)=jK f t b:=by
 unfold jK
 refine dB fun u _ => ?_
 by_cases e:u=t
 ·subst e;rw [pT,h];simp
 simp [e]
theorem aAE {f:FuncD} {t b:Nat} (h:(toB f b).contains t=true) (ht:t < f.blocks.length):(jK f t b).set t (natI (fX f b 0 t ++ [b]))=jK f t (b+1):=by
 apply bG
 intro u
 rw [cA,mT]
 by_cases hu:u < f.blocks.length
 ·have e0:∀ b,(jK f t b)[u]? = some (natI (if u < t then fX f f.blocks.length 0 u else if u=t then fX f b 0 u else [])):=fun b=>by simp [jK,hu]
  rw [e0,e0]
  by_cases e:t=u
  ·subst e
   rw [if_pos rfl,if_pos hu,if_neg (Nat.lt_irrefl _),if_pos rfl,pT,h]
   simp
  rw [if_neg e,if_neg (Ne.symm e),if_neg (Ne.symm e)]
 rw [aT (by rw [mT];omega),aT (by rw [mT];omega)]
 split <;> simp_all
theorem wW (f:FuncD) (t:Nat):jK f t f.blocks.length=jK f (t+1) 0:=by
 unfold jK
 refine dB fun u _ => ?_
 by_cases h1:u < t
 ·rw [if_pos h1,if_pos (by omega)]
 rw [if_neg h1]
 by_cases h2:u=t
 ·subst h2;rw [if_pos rfl,if_pos (by omega)]
 rw [if_neg h2,if_neg (by omega)]
 split
 ·simp [iK]
 rfl
theorem wX (f:FuncD):jK f f.blocks.length 0=gT f:=by
 unfold jK gT jU
 refine dB fun u hu => ?_
 rw [if_pos (cT.1 hu)]
set_option maxHeartbeats 12800000 in
set_option maxRecDepth 100000 in
theorem aCC {w:World} {v:Value} {f:FuncD} (hv:fP w v f) (hf:gW f=true):Calls Tryz.prog 61 #[v] w fun e w' => ∃ pv,e = .returned pv/\mB w' pv (gT f)/\Below w.heap.size w w':=by
 have bx:=h! (fun (b:Nat) (x:BlockD) (h:f.blocks[b]? = some x)=>oC hf h)
 obtain ⟨bc,bm⟩:=gG hf
 obtain ⟨ap,cp,ab,cb,rfl,hp,ha,hc,hB⟩:=hv.form
 obtain ⟨a2,c2,bb,bo,cj,bw,hbm,ch,az,bk⟩:=eW hB
 cases cj
 obtain ⟨np,bf⟩ : ∃ np,np=f.params.length:=⟨_,rfl⟩
 obtain ⟨nb,aw⟩ : ∃ nb,nb=f.blocks.length:=⟨_,rfl⟩
 rw [<-bf]
 rw [<-aw] at bw az ch bc bm ⊢
 obtain ⟨rfl,bn⟩:=az bc
 have ac:=h! aw
 have bs:=h! bk
 have hn0:(0:Int) <= (nb:Int):=by omega
 clear hp ha hc hB hv bk bf aw az hf
 generalize f.arrays=ar at *
 generalize f.cells=ce at *
 have ci:=run_make_row' (P:=Tryz.prog) 42 22 (.slice none 0 0) 24 Tryz.underlying42 uM rfl .i64 .i64 nb (by omega) (by omega)
 go_enter Tryz.func61,Tryz.ntmps61
 go_upto_region 1 with (fail)
 have bh:=(Below.refl w.heap.size w).alloc (aC _) (.cells #[.slice ap np cp,.int .i64 ar,.int .i64 ce,.slice (some ⟨bb,bo,none⟩) nb cb] 25)
 have HW:=h! bh
 clear bh
 have B1:=h! (Box.new w #[.slice ap np cp,.int .i64 ar,.int .i64 ce,.slice (some ⟨bb,bo,none⟩) nb cb] 25)
 generalize w.alloc (.cells #[.slice ap np cp,.int .i64 ar,.int .i64 ce,.slice (some ⟨bb,bo,none⟩) nb cb] 25)=wv at *
 obtain ⟨ad,ae,af⟩:=B1.out
 go_upto_region 2 with (fail)
 have aa:Hid (Bag (wv.alloc (.cells (madeCells #[.slice none 0 0] nb) 22)) w.heap.size [w.heap.size] wv.heap.size 3 _ (jK f 0 0)):=h! (by
  rw [tG, <-ac.out]
  exact Bag.empty (Box.new _ _ _))
 have an:=(Below.refl wv.heap.size wv).alloc (aC _) (.cells (madeCells #[.slice none 0 0] nb) 22)
 have ba:Hid (w.heap.size < wv.heap.size):=h! ad
 clear ad ae af
 replace B1:=h! (B1.out.later an)
 replace HW:=h! (HW.out.trans (an.mono HW.out.size))
 clear an
 obtain ⟨ad,ae,af⟩:=B1.out
 obtain ⟨bp,am⟩ : ∃ bp,bp=wv.heap.size:=⟨_,rfl⟩
 rw [<-am] at aa ba
 generalize wv.alloc _=wa at *
 simp only [<-am]
 clear am ci
 go_wp2_with fail
 go_loopw [4] (fun i wr => ∃ (t:Nat) (vs:List Value),t <= nb/\i = .int .i64 t/\Bag wr w.heap.size [w.heap.size] bp 3 vs (jK f t 0)/\Below w.heap.size w wr/\Box wr w.heap.size #[.slice ap np cp,.int .i64 ar,.int .i64 ce,.slice (some ⟨bb,bo,none⟩) nb cb]) (fun i _=>nb - (intOf i).toNat)
 case atStart=>exact ⟨0,_,aH _,rfl,aa.out,HW.out,B1.out⟩
 obtain ⟨t,vs,ht,rfl,hR,hW,h1⟩:=hrel
 clear ad ae af
 replace aa:=h! hR
 replace HW:=h! hW
 replace B1:=h! h1
 clear hR hW h1
 generalize wr=w3 at *
 obtain ⟨ad,ae,af⟩:=B1.out
 by_cases hlt:t < nb
 ·go_wp2_with fail
  go_loopw [5] (fun i wr => ∃ (b:Nat) (vs:List Value),b <= nb/\i = .int .i64 b/\Bag wr w.heap.size [w.heap.size] bp 3 vs (jK f t b)/\Below w.heap.size w wr/\Box wr w.heap.size #[.slice ap np cp,.int .i64 ar,.int .i64 ce,.slice (some ⟨bb,bo,none⟩) nb cb]) (fun i _=>nb - (intOf i).toNat)
  case atStart=>exact ⟨0,_,aH _,rfl,aa.out,HW.out,B1.out⟩
  obtain ⟨b,vs,hb,rfl,hR,hW,h1⟩:=hrel
  clear ad ae af
  replace aa:=h! hR
  replace HW:=h! hW
  replace B1:=h! h1
  clear hR hW h1
  generalize wr=w5 at *
  obtain ⟨ad,ae,af⟩:=B1.out
  by_cases hltb:b < nb
  ·obtain ⟨x,ak⟩ : ∃ x,f.blocks[b]? = some x:=⟨_,aB (by have:=ac.out;omega)⟩
   obtain ⟨api,aii,ati,cpi,cii,cti,hC⟩:=bs.out b x ak
   have bt:=h! (hC.to.below HW.out)
   obtain ⟨k0,k1,k2,k3,k4,k5,q1,q2,q3,q4,q5,q6⟩:=hC.below HW.out bn
   obtain ⟨cc,al⟩ : ∃ cc,cc=x.term.to.contains (t:Int):=⟨_,rfl⟩
   have bj:Hid ((toB f b).contains t=cc):=h! (by
    rw [al,mP (fun y hy=>by have:=bx.out b x ak y hy;omega),rR ak])
   have bd:=h! (zL (x:=(t:Int)) bt.out)
   rw [<-al] at bd
   clear q1 q2 q3 q4 q5 q6 hC ak k0 k1 k2 k3 k5 al
   go_wp2_with fail
   refine bd.out.mono ?_
   rintro e w6 ⟨rfl,rfl⟩
   clear k4
   cases cc
   ·go_wp2
    go_roundw
    case rel=>exact ⟨b+1,vs,hltb,by go_num,by rw [aAD bj.out];exact aa.out,HW.out,B1.out⟩
    simp [intOf];omega
   obtain ⟨v,bl,hcv,aj⟩:=aa.out.at (uQ (f:=f) (t:=t) (b:=b) (by have:=ac.out;omega))
   obtain ⟨n,hn⟩ : ∃ n,n=(natI (fX f b 0 t)).length:=⟨_,rfl⟩
   have hnle:n <= b+1:=by rw [hn,fE];exact nZ f b 0 t
   rw [<-hn] at aj
   have HN:=h! hn
   have HO:=h! aj
   have be:=h! bl
   obtain ⟨va,vc,rfl⟩:=aj.form
   have hbpl:=aa.out.box.lt
   have hbpf:=aa.out.box.free t
   clear hn aj bl
   have bi:=h! (HO.out.alloc (.cells #[.int .i64 b] 3))
   have ay:=h! (Box.new w5 #[.int .i64 b] 3)
   have ax:=h! (aa.out.alloc (.cells #[.int .i64 b] 3))
   have bz:=h! (B1.out.alloc (.cells #[.int .i64 b] 3))
   have bg:=h! (HW.out.alloc HW.out.size (.cells #[.int .i64 b] 3))
   go_wp2_with (at_builtin;refine sZ rfl _ _ 22 3 rfl nK rfl rfl bi.out (Row.of_box (n:=1) (size:=1) ay.out rfl (by omega)) (by simp [Value.oneCell']) (by unfold maxLen;omega) (by omega) bg.out.size (by intro y hy;simp at hy ⊢;omega) ?_;intro v7 w7 aq ag;obtain ⟨ai,ah,rfl⟩:=aq.form;have cd:=h! aq;have ao:=h! ag;have hc7:w7.cell? ⟨bp,t,none⟩=some (.slice va n vc):=(ax.out.box.kept ag (by simp) (fun e=>HO.out.free _ e (by simp))).at t (by simpa using be.out);have hf7:w7.frozen? ⟨bp,t,none⟩=false:=(ax.out.box.kept ag (by simp) (fun e=>HO.out.free _ e (by simp))).free t;clear aq ag)
   have br:Hid (Bag (w7.setCell ⟨bp,t,none⟩ (.slice ai (n+1) ah)) w.heap.size [w.heap.size] bp 3 (vs.set t (.slice ai (n+1) ah)) (jK f t (b+1))):=h! (by
    rw [<-aAE bj.out (by have:=ac.out;omega)]
    refine ax.out.put be.out (uQ (by have:=ac.out;omega)) ?_ ao.out
    have e9:natI (fX f b 0 t ++ [b])=natI (fX f b 0 t) ++ [(b:Int)]:=by simp [natI]
    rw [e9,aI,bD, <-HN.out]
    exact cd.out)
   have ca:=h! ((ao.out.below bg.out (by simp) (fun k hk=>(bi.out.lt hk).2)).setCell (p:=⟨bp,t,none⟩) (by have:=ba.out;simp only;omega) (.slice ai (n+1) ah))
   have cg:=h! ((bz.out.kept ao.out (by simp) (fun e=>HO.out.free _ e (by simp))).other (p:=⟨bp,t,none⟩) (.slice ai (n+1) ah) (by have:=ba.out;simp only;omega))
   go_roundw
   case rel=>exact ⟨b+1,_,hltb,by go_num,br.out,ca.out,cg.out⟩
   simp [intOf];omega
  have bq:b=nb:=by omega
  have bv:Hid (jK f t b=jK f (t+1) 0):=h! (by rw [bq,ac.out,wW])
  go_wp2
  go_roundw
  case rel=>exact ⟨t+1,vs,hlt,by go_num,by rw [<-bv.out];exact aa.out,HW.out,B1.out⟩
  simp [intOf];omega
 have bO:t=nb:=by omega
 have cf:Hid (mB w3 (.slice (some ⟨bp,0,none⟩) nb nb) (gT f)):=h! (by
  have h1:=aa.out
  rw [bO,ac.out,wX] at h1
  have h2:=h1.lists (by unfold gT;rw [iF];have:=ac.out;omega) (uL (by have:=ac.out;omega))
  have h3:(gT f).length=nb:=by unfold gT;rw [iF,ac.out]
  rw [h3] at h2;exact h2)
 go_wp2
 go_ret
 exact ⟨_,rfl,cf.out,HW.out⟩
end
section
open Go.RowKit
end
section
open Go.RowKit
end
end Go.Proofs.YtagabiidbbhhmaaGreat
