/- Part 36. -/
import Derived.Test.YtagabiidbbhhmaaGreatER24
namespace Go.Proofs.YtagabiidbbhhmaaGreat
set_option maxHeartbeats 12800000
set_option linter.all false
section
open Go.RowKit
def jN (f:FuncD) (t b:Nat):List (List Int):=(List.range f.blocks.length).map fun u=>natI (if u < t then gJ f f.blocks.length 0 u else if u=t then gJ f b 0 u else [])
theorem mQ (f:FuncD) (t b:Nat):(jN f t b).length=f.blocks.length:=by simp [jN]
theorem uV {f:FuncD} {t b:Nat} (h:t < f.blocks.length):(jN f t b)[t]? = some (natI (gJ f b 0 t)):=by simp [jN,h]
theorem tK (f:FuncD):jN f 0 0=List.replicate f.blocks.length []:=by
 apply bJ
 intro t
 by_cases h:t < f.blocks.length
 ·simp only [jN,aQ,dY h,cR]
  rw [dN,if_pos h]
  by_cases e:t=0 <;> simp [e,natI,iM]
 rw [aT (by rw [mQ];omega),aT (by simp;omega)]
theorem pS (f:FuncD) (b t:Nat):gJ f (b+1) 0 t=gJ f b 0 t ++ (if (toB f b).contains t then [b] else []):=by
 rw [iM,iM,eF,dH]
 simp only [List.filter_cons,List.filter_nil]
theorem zC {f:FuncD} {t b:Nat} (h:(toB f b).contains t=false):jN f t (b+1)=jN f t b:=by
 unfold jN
 refine bS fun u _ => ?_
 by_cases e:u=t
 ·subst e;rw [pS,h];simp
 simp [e]
theorem zD {f:FuncD} {t b:Nat} (h:(toB f b).contains t=true) (ht:t < f.blocks.length):(jN f t b).set t (natI (gJ f b 0 t ++ [b]))=jN f t (b+1):=by
 apply bJ
 intro u
 rw [cJ,mQ]
 by_cases hu:u < f.blocks.length
 ·have e0:∀ b,(jN f t b)[u]? = some (natI (if u < t then gJ f f.blocks.length 0 u else if u=t then gJ f b 0 u else [])):=fun b=>by simp [jN,hu]
  rw [e0,e0]
  by_cases e:t=u
  ·subst e
   rw [if_pos rfl,if_pos hu,if_neg (Nat.lt_irrefl _),if_pos rfl,pS,h]
   simp
  rw [if_neg e,if_neg (Ne.symm e),if_neg (Ne.symm e)]
 rw [aT (by rw [mQ];omega),aT (by rw [mQ];omega)]
 split <;> simp_all
theorem vZ (f:FuncD) (t:Nat):jN f t f.blocks.length=jN f (t+1) 0:=by
 unfold jN
 refine bS fun u _ => ?_
 by_cases h1:u < t
 ·rw [if_pos h1,if_pos (by omega)]
 rw [if_neg h1]
 by_cases h2:u=t
 ·subst h2;rw [if_pos rfl,if_pos (by omega)]
 rw [if_neg h2,if_neg (by omega)]
 split
 ·simp [iM]
 rfl
theorem wA (f:FuncD):jN f f.blocks.length 0=gZ f:=by
 unfold jN gZ jY
 refine bS fun u hu => ?_
 rw [if_pos (cS.1 hu)]
set_option maxRecDepth 100000 in
theorem aB0 {w:World} {v:Value} {f:FuncD} (hv:fU w v f) (hf:gW f=true):Calls Tryz.prog 61 #[v] w fun e w' => ∃ pv,e = .returned pv/\nQ w' pv (gZ f)/\Below w.heap.size w w':=by
 have cg:=h! (fun (b:Nat) (x:BlockD) (h:f.blocks[b]? = some x)=>mF hf h)
 obtain ⟨bc,ci⟩:=iE hf
 obtain ⟨ap,cp,ab,cb,rfl,hp,ha,hc,hB⟩:=hv.form
 obtain ⟨a2,c2,bb,bo,bw,bq,hbm,bt,al,bd⟩:=eY hB
 cases bw
 obtain ⟨np,bl⟩ : ∃ np,np=f.params.length:=⟨_,rfl⟩
 obtain ⟨nb,ao⟩ : ∃ nb,nb=f.blocks.length:=⟨_,rfl⟩
 rw [<-bl]
 rw [<-ao] at bq al bt bc ci ⊢
 obtain ⟨rfl,bx⟩:=al bc
 have ac:=h! ao
 have cj:=h! bd
 have hn0:(0:Int) <= (nb:Int):=by omega
 clear hp ha hc hB hv bd bl ao al hf
 generalize f.arrays=ar at *
 generalize f.cells=ce at *
 have bn:=run_make_row' (P:=Tryz.prog) 42 22 (.slice none 0 0) 24 Tryz.underlying42 vK rfl .i64 .i64 nb (by omega) (by omega)
 go_enter Tryz.func61,Tryz.ntmps61
 go_upto_region 1 with (fail)
 have bi:=(Below.refl w.heap.size w).alloc (aB _) (.cells #[.slice ap np cp,.int .i64 ar,.int .i64 ce,.slice (some ⟨bb,bo,none⟩) nb cb] 25)
 have HW:=h! bi
 clear bi
 have B1:=h! (Box.new w #[.slice ap np cp,.int .i64 ar,.int .i64 ce,.slice (some ⟨bb,bo,none⟩) nb cb] 25)
 generalize w.alloc (.cells #[.slice ap np cp,.int .i64 ar,.int .i64 ce,.slice (some ⟨bb,bo,none⟩) nb cb] 25)=wv at *
 obtain ⟨ad,af,ae⟩:=B1.out
 go_upto_region 2 with (fail)
 have aa:Hid (Bag (wv.alloc (.cells (madeCells #[.slice none 0 0] nb) 22)) w.heap.size [w.heap.size] wv.heap.size 3 _ (jN f 0 0)):=h! (by
  rw [tK, <-ac.out]
  exact Bag.empty (Box.new _ _ _))
 have ba:=(Below.refl wv.heap.size wv).alloc (aB _) (.cells (madeCells #[.slice none 0 0] nb) 22)
 have az:Hid (w.heap.size < wv.heap.size):=h! ad
 clear ad af ae
 replace B1:=h! (B1.out.later ba)
 replace HW:=h! (HW.out.trans (ba.mono HW.out.size))
 clear ba
 obtain ⟨ad,af,ae⟩:=B1.out
 obtain ⟨bp,ay⟩ : ∃ bp,bp=wv.heap.size:=⟨_,rfl⟩
 rw [<-ay] at aa az
 generalize wv.alloc _=wa at *
 simp only [<-ay]
 clear ay bn
 go_wp2_with fail
 go_loopw [4] (fun i wr => ∃ (t:Nat) (vs:List Value),t <= nb/\i = .int .i64 t/\Bag wr w.heap.size [w.heap.size] bp 3 vs (jN f t 0)/\Below w.heap.size w wr/\Box wr w.heap.size #[.slice ap np cp,.int .i64 ar,.int .i64 ce,.slice (some ⟨bb,bo,none⟩) nb cb]) (fun i _=>nb - (intOf i).toNat)
 case atStart=>exact ⟨0,_,aJ _,rfl,aa.out,HW.out,B1.out⟩
 obtain ⟨t,vs,ht,rfl,hR,hW,h1⟩:=hrel
 clear ad af ae
 replace aa:=h! hR
 replace HW:=h! hW
 replace B1:=h! h1
 clear hR hW h1
 generalize wr=w3 at *
 obtain ⟨ad,af,ae⟩:=B1.out
 by_cases hlt:t < nb
 ·go_wp2_with fail
  go_loopw [5] (fun i wr => ∃ (b:Nat) (vs:List Value),b <= nb/\i = .int .i64 b/\Bag wr w.heap.size [w.heap.size] bp 3 vs (jN f t b)/\Below w.heap.size w wr/\Box wr w.heap.size #[.slice ap np cp,.int .i64 ar,.int .i64 ce,.slice (some ⟨bb,bo,none⟩) nb cb]) (fun i _=>nb - (intOf i).toNat)
  case atStart=>exact ⟨0,_,aJ _,rfl,aa.out,HW.out,B1.out⟩
  obtain ⟨b,vs,hb,rfl,hR,hW,h1⟩:=hrel
  clear ad af ae
  replace aa:=h! hR
  replace HW:=h! hW
  replace B1:=h! h1
  clear hR hW h1
  generalize wr=w5 at *
  obtain ⟨ad,af,ae⟩:=B1.out
  by_cases hltb:b < nb
  ·obtain ⟨x,ah⟩ : ∃ x,f.blocks[b]? = some x:=⟨_,aC (by have:=ac.out;omega)⟩
   obtain ⟨api,aii,ati,cpi,cii,cti,hC⟩:=cj.out b x ah
   have br:=h! (hC.to.below HW.out)
   obtain ⟨k0,k1,k2,k3,k4,k5,q1,q2,q3,q4,q5,q6⟩:=hC.below HW.out bx
   obtain ⟨cc,am⟩ : ∃ cc,cc=x.term.to.contains (t:Int):=⟨_,rfl⟩
   have bj:Hid ((toB f b).contains t=cc):=h! (by
    rw [am,nB (fun y hy=>by have:=cg.out b x ah y hy;omega),pK ah])
   have bk:=h! (aDO (x:=(t:Int)) br.out)
   rw [<-am] at bk
   clear q1 q2 q3 q4 q5 q6 hC ah k0 k1 k2 k3 k5 am
   go_wp2_with fail
   refine bk.out.mono ?_
   rintro e w6 ⟨rfl,rfl⟩
   clear k4
   cases cc
   ·go_wp2
    go_roundw
    case rel=>exact ⟨b+1,vs,hltb,by go_num,by rw [zC bj.out];exact aa.out,HW.out,B1.out⟩
    simp [intOf];omega
   obtain ⟨v,bf,hcv,aj⟩:=aa.out.at (uV (f:=f) (t:=t) (b:=b) (by have:=ac.out;omega))
   obtain ⟨n,hn⟩ : ∃ n,n=(natI (gJ f b 0 t)).length:=⟨_,rfl⟩
   have hnle:n <= b+1:=by rw [hn,fT];exact oI f b 0 t
   rw [<-hn] at aj
   have HN:=h! hn
   have HO:=h! aj
   have bh:=h! bf
   obtain ⟨va,vc,rfl⟩:=aj.form
   have hbpl:=aa.out.box.lt
   have hbpf:=aa.out.box.free t
   clear hn aj bf
   have bg:=h! (HO.out.alloc (.cells #[.int .i64 b] 3))
   have aw:=h! (Box.new w5 #[.int .i64 b] 3)
   have ax:=h! (aa.out.alloc (.cells #[.int .i64 b] 3))
   have cf:=h! (B1.out.alloc (.cells #[.int .i64 b] 3))
   have be:=h! (HW.out.alloc HW.out.size (.cells #[.int .i64 b] 3))
   go_wp2_with (at_builtin;refine oY rfl _ _ 22 3 rfl mI rfl rfl bg.out (Row.of_box (n:=1) (size:=1) aw.out rfl (by omega)) (by simp [Value.oneCell']) (by unfold maxLen;omega) (by omega) be.out.size (by intro y hy;simp at hy ⊢;omega) ?_;intro v7 w7 an ag;obtain ⟨ai,ak,rfl⟩:=an.form;have ca:=h! an;have aq:=h! ag;have hc7:w7.cell? ⟨bp,t,none⟩=some (.slice va n vc):=(ax.out.box.kept ag (by simp) (fun e=>HO.out.free _ e (by simp))).at t (by simpa using bh.out);have hf7:w7.frozen? ⟨bp,t,none⟩=false:=(ax.out.box.kept ag (by simp) (fun e=>HO.out.free _ e (by simp))).free t;clear an ag)
   have bm:Hid (Bag (w7.setCell ⟨bp,t,none⟩ (.slice ai (n+1) ak)) w.heap.size [w.heap.size] bp 3 (vs.set t (.slice ai (n+1) ak)) (jN f t (b+1))):=h! (by
    rw [<-zD bj.out (by have:=ac.out;omega)]
    refine ax.out.put bh.out (uV (by have:=ac.out;omega)) ?_ aq.out
    have e9:natI (gJ f b 0 t ++ [b])=natI (gJ f b 0 t) ++ [(b:Int)]:=by simp [natI]
    rw [e9,aI,aZ, <-HN.out]
    exact ca.out)
   have ch:=h! ((aq.out.below be.out (by simp) (fun k hk=>(bg.out.lt hk).2)).setCell (p:=⟨bp,t,none⟩) (by have:=az.out;simp only;omega) (.slice ai (n+1) ak))
   have bs:=h! ((cf.out.kept aq.out (by simp) (fun e=>HO.out.free _ e (by simp))).other (p:=⟨bp,t,none⟩) (.slice ai (n+1) ak) (by have:=az.out;simp only;omega))
   go_roundw
   case rel=>exact ⟨b+1,_,hltb,by go_num,bm.out,ch.out,bs.out⟩
   simp [intOf];omega
  have bO:b=nb:=by omega
  have bv:Hid (jN f t b=jN f (t+1) 0):=h! (by rw [bO,ac.out,vZ])
  go_wp2
  go_roundw
  case rel=>exact ⟨t+1,vs,hlt,by go_num,by rw [<-bv.out];exact aa.out,HW.out,B1.out⟩
  simp [intOf];omega
 have cd:t=nb:=by omega
 have bz:Hid (nQ w3 (.slice (some ⟨bp,0,none⟩) nb nb) (gZ f)):=h! (by
  have h1:=aa.out
  rw [cd,ac.out,wA] at h1
  have h2:=h1.lists (by unfold gZ;rw [iL];have:=ac.out;omega) (vJ (by have:=ac.out;omega))
  have h3:(gZ f).length=nb:=by unfold gZ;rw [iL,ac.out]
  rw [h3] at h2;exact h2)
 go_wp2
 go_ret
 exact ⟨_,rfl,bz.out,HW.out⟩
end
section
open Go.RowKit
structure SeeI (base B nb:Nat) (W:World) (s:List Bool) (d:List Nat) (dv:Value):Prop where
 flags:Box W B (gO s)
 own:Own W base [B] 3 1 dv d.length (d.map fun x:Nat=>Value.int .i64 x)
 len:s.length=nb
theorem SeeI.later {base B nb:Nat} {W W' : World} {s:List Bool} {d:List Nat} {dv:Value} (h:SeeI base B nb W s d dv) (hb:Below W.heap.size W W'):SeeI base B nb W' s d dv:=⟨h.flags.later hb,h.own.later hb,h.len⟩
theorem SeeI.flag {base B nb:Nat} {W:World} {s:List Bool} {d:List Nat} {dv:Value} (h:SeeI base B nb W s d dv) (b:Nat):SeeI base B nb (W.setCell ⟨B,b,none⟩ (.bool true)) (s.set b true) d dv:=by
 refine ⟨?_,h.own.other _ (by simp),by rw [bX];exact h.len⟩
 have:=h.flags.set b (.bool true)
 rwa [kS] at this
def SeeR (f:FuncD) (base B nb:Nat) (w0 W:World) (s:List Bool) (d:List Nat) (dv:Value) (b:Nat) (e:Ending) (W' : World):Prop :=
 ∃ s' d' dv',e = .returned dv' /\ Steps (toB f) (toB f b) (s.set b true) d s' d' /\ SeeI base B nb W' s' (d' ++ [b]) dv' /\ Kept [B] dv dv' W W' /\ Below w0.heap.size w0 W'
theorem aB1 {w:World} {f:FuncD} {ap:Option Addr} {np cp:Nat} {ar ce:Int} {nb cb b0 bo:Nat} (hnb:nb=f.blocks.length) (hcb:nb <= cb) (hcm:cb <= 9223372036854775807) (hb0:b0 < w.heap.size) (h512:nb <= 512)
  (hbx:∀ (j:Nat) (x:BlockD),f.blocks[j]? = some x -> ∃ api aii ati cpi cii cti,BlockC w b0 (bo+j * 6) x api aii ati cpi cii cti)
  (hto:∀ (j:Nat) (x:BlockD),f.blocks[j]? = some x -> ∀ t ∈ x.term.to,1 <= t/\t < (nb:Int)) {B:Nat} (hB:w.heap.size <= B) :
  ∀ (m:Nat) (W:World) (s:List Bool) (d:List Nat) (dv:Value) (b:Nat),s.count false <= m -> d.length+s.count false <= 1024 -> SeeI w.heap.size B nb W s d dv -> Below w.heap.size w W -> s[b]? = some false ->
   Calls Tryz.prog 79 #[.agg #[.slice ap np cp,.int .i64 ar,.int .i64 ce,.slice (some ⟨b0,bo,none⟩) nb cb],.int .i64 b,.slice (some ⟨B,0,none⟩) nb nb,dv] W
    (SeeR f w.heap.size B nb w W s d dv b):=by
 intro m
 induction m with
 | zero =>
  intro W s d dv b hm _ _ _ hs
  exfalso
  have:=count_set hs
  omega
 | succ m ih =>
  intro W s d dv b hm hd ab hW hs
  have ct:=h! ih
  have HNB:=h! hnb
  have HBX:=h! hbx
  have cL:=h! hto
  have bj:=count_set hs
  have hbl:b < nb:=by have:=(aF.1 hs).1;rw [ab.len] at this;exact this
  obtain ⟨x,hx⟩ : ∃ x,f.blocks[b]? = some x:=⟨_,aC (by omega)⟩
  have HX:=h! hx
  obtain ⟨api,aii,ati,cpi,cii,cti,hC⟩:=hbx b x hx
  obtain ⟨ta,tc,aj,ak,ck,db,ag,cg,cf⟩:=hC.to.parts
  cases ck
  have cl:=h! cg
  have cy:=h! cf
  obtain ⟨tl,al⟩ : ∃ tl,tl=x.term.to.length:=⟨_,rfl⟩
  have af:=h! al
  have HC:=h! hC
  rw [<-al] at db
  have HV:=h! ab
  have HW:=h! hW
  have HS:=h! hs
  have HD:=h! hd
  have bw:=h! bj
  have HM:=h! hm
  obtain ⟨da,dc,rfl⟩:=ab.own.form
  clear ab hW hs hd bj hm hx hC al cg cf hnb hbx hto ih
  go_enter Tryz.func79,Tryz.ntmps79
  go_upto_region 1 with (fail)
  have bd:=(Below.refl W.heap.size W).alloc (aB _) (.cells #[.slice ap np cp,.int .i64 ar,.int .i64 ce,.slice (some ⟨b0,bo,none⟩) nb cb] 25)
  have B1:=h! (Box.new W #[.slice ap np cp,.int .i64 ar,.int .i64 ce,.slice (some ⟨b0,bo,none⟩) nb cb] 25)
  have bp:=h! (⟨HV.out.flags.lt,fun k hk=>(HV.out.own.lt hk).1⟩ : B < W.heap.size /\ ∀ k,(Value.slice da d.length dc).ownBlock=some k -> k < W.heap.size)
  replace HV:=h! (HV.out.later bd)
  have bi:Hid (Kept [B] (.slice da d.length dc) (.slice da d.length dc) W (W.alloc (.cells #[.slice ap np cp,.int .i64 ar,.int .i64 ce,.slice (some ⟨b0,bo,none⟩) nb cb] 25))):=h! (Kept.of_below bd)
  replace HW:=h! (HW.out.alloc HW.out.size (.cells #[.slice ap np cp,.int .i64 ar,.int .i64 ce,.slice (some ⟨b0,bo,none⟩) nb cb] 25))
  obtain ⟨W0,cG⟩ : ∃ W0,W0=W:=⟨_,rfl⟩
  have HSZ:Hid (W.heap.size=W0.heap.size):=h! (by rw [cG])
  generalize W.alloc _=W1 at *
  clear bd
  obtain ⟨l2,c2,f2⟩:=HV.out.flags
  have ax:(gO s)[b]? = some (.bool false):=jA HS.out
  go_upto_region 2 with (fail)
  clear l2 c2 f2 ax
  have ae:W.heap.size ≠ B:=fun e=>by have:=bp.out.1;omega
  have bs:=HV.out.flag b
  have bg:Kept [B] (.slice da d.length dc) (.slice da d.length dc) W (W1.setCell ⟨B,b,none⟩ (.bool true)):=bi.out.trans (Kept.set W1 _ (by simp))
  have ah:Below w.heap.size w (W1.setCell ⟨B,b,none⟩ (.bool true)):=HW.out.setCell (p:=⟨B,b,none⟩) hB _
  replace B1:=h! (B1.out.other (p:=⟨B,b,none⟩) (.bool true) ae)
  obtain ⟨k0,k1,k2,k3,k4,k5,q1,q2,q3,q4,q5,q6⟩:=HC.out.below ah hb0
  clear q1 q2 q3 q4 q5 q6 k0 k1 k2 k3 k5
  rw [<-af.out] at k4
  have bh:=h! bs
  have cd:=h! bg
  have bf:=h! ah
  generalize W1.setCell ⟨B,b,none⟩ (.bool true)=W2 at *
  clear bs bg ah bi
  obtain ⟨l3,c3,f3⟩:=B1.out
  go_upto_region 3 with (fail)
  clear l3 c3 f3 k4
  go_wp2_with fail
  go_loopw [3,10] (fun u i wr => ∃ (k:Nat) (s' : List Bool) (d' : List Nat),k <= tl/\i = .int .i64 k/\Steps (toB f) ((toB f b).take k) (s.set b true) d s' d' /\ SeeI w.heap.size B nb wr s' d' u/\Kept [B] (.slice da d.length dc) u W wr/\Below w.heap.size w wr/\Box wr W.heap.size #[.slice ap np cp,.int .i64 ar,.int .i64 ce,.slice (some ⟨b0,bo,none⟩) nb cb] /\ ∀ g,u.ownBlock=some g -> g ≠ W.heap.size) (fun _ i _=>tl - (intOf i).toNat)
  case atStart=>exact ⟨0,_,_,aJ _,rfl,Steps.nil _ _,bh.out,cd.out,bf.out,B1.out,fun g hg e=>by have:=bp.out.2 g hg;omega⟩
  obtain ⟨k,s',d',hk,rfl,an,hV,hK,bt,be,ca⟩:=hrel
  have bb:=h! ca
  have ad:=h! an
  replace HV:=h! hV
  have HK:=h! hK
  have aa:=h! bt
  replace B1:=h! be
  have bv:Hid (d'.length+s'.count false+1 <= 1024):=h! (by have h1:=an.total;have h2:=bw.out;have h3:=HD.out;omega)
  obtain ⟨oa,oc,rfl⟩:=hV.own.form
  clear an hV hK bt be ca bh cd bf
  generalize wr=W3 at *
  by_cases hlt:k < tl
  ·obtain ⟨rfl,cz⟩:=cl.out (by have:=af.out;omega)
   obtain ⟨t,ht⟩ : ∃ t,t=x.term.to.getD k 0:=⟨_,rfl⟩
   have ag:x.term.to[k]? = some t:=by rw [ht];exact fK _ _ (by have:=af.out;omega)
   have co:=cL.out b x HX.out t (aG ag)
   obtain ⟨tn,rfl⟩ : ∃ tn:Nat,t=(tn:Int):=⟨t.toNat,by omega⟩
   have cF:tn < nb:=by omega
   have bx:W3.cell? ⟨aj,ak+k,none⟩=some (.int .i64 tn):=by
    rw [aa.out.cell (p:=⟨aj,ak+k,none⟩) cz,cy.out k (by have:=af.out;omega), <-ht]
   have bq:Hid ((toB f b).take (k+1)=(toB f b).take k ++ [tn]):=h! (by
    rw [pK HX.out]
    exact eT _ k tn (by rw [aQ,ag];simp))
   obtain ⟨l2,c2,f2⟩:=HV.out.flags
   obtain ⟨sb,ai⟩ : ∃ sb,s'[tn]? = some sb:=⟨_,aC (by rw [HV.out.len];exact cF)⟩
   have ax:=jA ai
   have aw:=h! ai
   clear ht ag co ai
   cases sb
   ·have bz:s'.count false <= m:=by have:=ad.out.count;have:=bw.out;have:=HM.out;omega
    have cM:Hid (∀ W4,Below W3.heap.size W3 W4 -> Calls Tryz.prog 79 #[.agg #[.slice ap np cp,.int .i64 ar,.int .i64 ce,.slice (some ⟨b0,bo,none⟩) nb cb],.int .i64 tn,.slice (some ⟨B,0,none⟩) nb nb,.slice oa d'.length oc] W4 (SeeR f w.heap.size B nb w W4 s' d' (.slice oa d'.length oc) tn)):=h! (fun W4 hb4 =>
     ct.out W4 s' d' _ tn bz (by have:=bv.out;omega) (HV.out.later hb4) (aa.out.trans (hb4.mono aa.out.size)) aw.out)
    clear bz
    go_upto_region 7 with (fail)
    clear l2 c2 f2 ax
    have bc:Hid (gA W3 W3):=h! (Below.refl _ _)
    obtain ⟨ay,ba,aq⟩:=B1.out
    refine wp_region_grow 7 (fun _=>.plain) (by kernel_rfl) (by kernel_rfl) ?_ (fun ν => ?_)
    ·exact fun _=>trivial
    simp only [aO,aS,aP,aU]
    iterate 7 (refine Grow.val (v := ?_) rfl rfl (fun wg hbg hdg => ?_) ?_;rotate_left;(focus ((obtain ⟨lg0,cg0,fg0⟩:=B1.out.later hbg);(have hct9:=(hbg.cell (p:=⟨aj,ak+k,none⟩) (World.block_lt_of_cell? W3 _ bx)).trans bx);clear hbg hdg;first | (go_simp;done) | (go_simp;with_reducible rfl)));simp only [Act.put,aA,aD,aE])
    intro wg hb hf cs
    clear cs
    clear ay ba aq
    replace B1:=h! (B1.out.later hb)
    replace HV:=h! (HV.out.later hb)
    replace HK:=h! (HK.out.later hb)
    replace bc:=h! (bc.out.later hb)
    replace aa:=h! (aa.out.trans (hb.mono aa.out.size))
    clear hb
    obtain ⟨ay,ba,aq⟩:=B1.out
    go_wp2_with fail
    refine (cM.out wg bc.out).mono ?_
    rintro e W5 ⟨s5,d5,ci,rfl,ac,cc,am,bn⟩
    have cx:=h! ac
    have cB:=h! cc
    have bO:=h! am
    have ch:=h! bn
    have cm:=h! (B1.out.kept am (by simpa using ae) (fun e=>bb.out _ e rfl))
    have cr:Hid (∀ g,ci.ownBlock=some g -> g ≠ W.heap.size):=h! (fun g hg e=>by
     rcases bO.out.own g hg with h9 | h9
     ·exact bb.out g h9 e
     have:=B1.out.lt;omega)
    clear ay ba aq
    clear ac cc am bn
    go_wp2
    go_roundw
    case rel =>
     exact ⟨k+1,s5,d5 ++ [tn],hlt,by go_num,by rw [bq.out];exact ad.out.append (.go aw.out cx.out (.nil _ _)),cB.out,HK.out.trans bO.out,ch.out,cm.out,cr.out⟩
    simp [intOf];omega
   go_wp2
   go_roundw
   case rel=>exact ⟨k+1,s',d',hlt,by go_num,by rw [bq.out];exact ad.out.append (.skip aw.out (.nil _ _)),HV.out,HK.out,aa.out,B1.out,bb.out⟩
   simp [intOf];omega
  have cn:k=tl:=by omega
  rw [cn,aH (by rw [pK HX.out,aW];exact Nat.le_of_eq af.out.symm)] at ad
  have hdr:=bv.out
  have bm:=h! (HV.out.own.alloc (.cells #[.int .i64 b] 3))
  have az:=h! (Box.new W3 #[.int .i64 b] 3)
  have bl:=h! (aa.out.alloc aa.out.size (.cells #[.int .i64 b] 3))
  have hbl3:=HV.out.flags.lt
  go_wp2_with (at_builtin;refine oY rfl _ _ 22 3 rfl mI rfl rfl bm.out (Row.of_box (n:=1) (size:=1) az.out rfl (by omega)) (by simp [Value.oneCell']) (by unfold maxLen;omega) (by omega) bl.out.size (by intro y hy;simp at hy ⊢;omega) ?_;intro v7 w7 br bk;have cv:=h! br;have ao:=h! bk;clear br bk)
  have cw:Hid (SeeI w.heap.size B nb w7 s' (d' ++ [b]) v7):=h! ⟨(HV.out.flags.alloc _).kept ao.out (by simp) (fun e=>HV.out.own.free _ e (by simp)),by rw [aI,aZ];exact cv.out,HV.out.len⟩
  have cq:Hid (Kept [B] (.slice da d.length dc) v7 W w7):=h! ((HK.out.later ((Below.refl _ _).alloc (aB _) _)).trans (ao.out.more (by simp)))
  have cj:=h! (ao.out.below bl.out (by simp) (fun k hk=>(bm.out.lt hk).2))
  go_ret
  exact ⟨s',d',v7,rfl,ad.out,cw.out,cq.out,cj.out⟩
end
section
open Go.RowKit
set_option maxRecDepth 100000 in
theorem aB2 {w:World} {v:Value} {f:FuncD} (hv:fU w v f) (hf:gW f=true):Calls Tryz.prog 39 #[v] w fun e w' => ∃ ov O,e = .returned ov/\fO f O/\Ints w' ov (natI O)/\Below w.heap.size w w':=by
 have cs:=h! (fun (b:Nat) (x:BlockD) (h:f.blocks[b]? = some x)=>mF hf h)
 obtain ⟨bf,bv⟩:=iE hf
 obtain ⟨ap,cp,ab,cb,rfl,hp,ha,hc,hB⟩:=hv.form
 obtain ⟨a2,c2,bb,bo,ci,bi,cd,cg,ao,bg⟩:=eY hB
 cases ci
 obtain ⟨np,br⟩ : ∃ np,np=f.params.length:=⟨_,rfl⟩
 obtain ⟨nb,ax⟩ : ∃ nb,nb=f.blocks.length:=⟨_,rfl⟩
 rw [<-br]
 rw [<-ax] at bi ao cg bf bv ⊢
 obtain ⟨rfl,cj⟩:=ao bf
 have ae:=h! ax
 have cw:=h! bg
 have hn0:(0:Int) <= (nb:Int):=by omega
 clear hp ha hc hB hv bg br ax ao hf
 generalize f.arrays=ar at *
 generalize f.cells=ce at *
 have cf:=run_make_row' (P:=Tryz.prog) 124 4 (.bool false) 1 Tryz.underlying124 oJ rfl .i64 .i64 nb (by omega) (by omega)
 go_enter Tryz.func39,Tryz.ntmps39
 go_upto_region 1 with (fail)
 have bj:=(Below.refl w.heap.size w).alloc (aB _) (.cells #[.slice ap np cp,.int .i64 ar,.int .i64 ce,.slice (some ⟨bb,bo,none⟩) nb cb] 25)
 have HW:=h! bj
 clear bj
 have B1:=h! (Box.new w #[.slice ap np cp,.int .i64 ar,.int .i64 ce,.slice (some ⟨bb,bo,none⟩) nb cb] 25)
 generalize w.alloc (.cells #[.slice ap np cp,.int .i64 ar,.int .i64 ce,.slice (some ⟨bb,bo,none⟩) nb cb] 25)=wv at *
 obtain ⟨am,bc,ay⟩:=B1.out
 refine wp_region_grow 5 (fun kz=>match kz with | 4=>.made wv.heap.size (fun b=>.slice (some ⟨b,0,none⟩) nb nb) (madeCells #[.bool false] nb) | _=>.plain) (by kernel_rfl) (by kernel_rfl) ?_ (fun ν => ?_)
 ·(intro k;(try dsimp only);split <;> first | exact True.intro | (intro u w1 w2 hu hb;exact hu.below hb))
 simp only [aO,aS,aP,aU]
 iterate 4 (refine Grow.val (v := ?_) rfl rfl (fun wg hbg hdg => ?_) ?_;rotate_left;(focus ((obtain ⟨lg0,cg0,fg0⟩:=B1.out.later hbg);clear hbg hdg;first | (go_simp;done) | (go_simp;with_reducible rfl)));simp only [Act.put,aA,aD,aE])
 refine Grow.made (T := ?_) rfl rfl (fun wg hbg hdg => ?_) ?_
 rotate_left
 focus ((obtain ⟨lg0,cg0,fg0⟩:=B1.out.later hbg);clear hbg hdg;first | (go_simp;done) | (go_simp;with_reducible rfl))
 simp only [Act.put,Known.val,aA,aD,aE]
 intro wg hb hf cl
 obtain ⟨al,ai,af,ad⟩:=hf 4 (by omega)
 have ag:al ≠ w.heap.size:=fun e=>by have:=am;omega
 have nB1BF:w.heap.size ≠ al:=fun e=>ag e.symm
 simp only [ai]
 clear ai
 clear cl
 have bw:=bE HW.out.size af
 clear af
 clear am bc ay
 replace B1:=h! (B1.out.later hb)
 replace HW:=h! (HW.out.trans (hb.mono HW.out.size))
 clear hb
 have BF:=h! ad
 clear ad
 obtain ⟨am,bc,ay⟩:=B1.out
 obtain ⟨ck,cv,ch⟩:=BF.out
 clear hf cf
 have ah:Hid (SeeI w.heap.size al nb wg (List.replicate nb false) [] (.slice none 0 0)):=h! ⟨by have:=BF.out;rwa [kQ] at this,Own.nil,by simp⟩
 have bp:=h! (aB1 (w:=w) (f:=f) (ap:=ap) (np:=np) (cp:=cp) (ar:=ar) (ce:=ce) ae.out bi cd cj bv cw.out (fun j x h t ht=>by rw [ae.out];exact cs.out j x h t ht) (B:=al) bw nb wg (List.replicate nb false) [] (.slice none 0 0) 0 (by rw [eJ];exact aB _) (by rw [eJ];simp only [cN];omega) ah.out HW.out (by rw [dN,if_pos (by omega)]))
 clear am bc ay ck cv ch
 go_wp2_with fail
 refine bp.out.mono ?_
 rintro e w5 ⟨s',d',dv,rfl,bk,bq,hK,bl⟩
 obtain ⟨O,hO⟩ : ∃ O,O=(d' ++ [0]).reverse:=⟨_,rfl⟩
 have ak:O.reverse=d' ++ [0]:=by rw [hO,List.reverse_reverse]
 have aw:Hid (fO f O):=h! ⟨s',by
  rw [ak, <-ae.out]
  exact .go (by rw [dN,if_pos (by omega)]) bk (.nil _ _)⟩
 obtain ⟨-, -,bs, -, -⟩:=aw.out.facts
 have bh:=aw.out.le
 obtain ⟨m,hm⟩ : ∃ m,m=O.length:=⟨_,rfl⟩
 have be:(d' ++ [0]).length=m:=by rw [<-ak,eR, <-hm]
 have hmn:m <= nb:=by rw [hm,ae.out];exact bh
 have ac:=bq.own.row
 have hI:Ints w5 dv (natI (d' ++ [0])):=by
  refine Ints.of_own (base:=w.heap.size) (e:=3) ?_ (by rw [fT,be];omega) (uH fun b hb=>by have:=bs b (by rw [<-List.mem_reverse,ak];exact hb);have:=ae.out;omega)
  rw [fT]
  have e9:(natI (d' ++ [0])).map (Value.int .i64)=(d' ++ [0]).map fun x:Nat=>Value.int .i64 x:=by unfold natI;rw [cK];rfl
  rw [e9];exact ac
 obtain ⟨D,hD⟩ : ∃ D,D=natI (d' ++ [0]):=⟨_,rfl⟩
 rw [<-hD] at hI
 have aq:m=D.length:=by rw [hD,fT,be]
 have cq:Hid (D.reverse=natI O):=h! (by rw [hD];unfold natI;rw [<-List.map_reverse, <-hO])
 obtain ⟨ia,ic,ib,io,rfl,ct,him,az,bn⟩:=hI.parts
 rw [<-aq] at ct az ⊢
 have co:=h! bn
 have cc:=h! az
 have aj:=h! aq
 replace HW:=h! bl
 have ba:=h! hI.2
 clear bk bq hK bl hO ak bs bh hm be ac hI hD aq bn az bp ah BF B1 bw
 go_wp2_with fail
 have HO:Hid (Own (w5.alloc (.cells #[] 3)) w5.heap.size [] 3 1 (.slice (some ⟨w5.heap.size,0,none⟩) 0 0) 0 []):=h! (kE (aB _) (by simp) 1)
 have aa:=h! ((Below.refl w5.heap.size w5).alloc (aB _) (.cells #[] 3))
 generalize w5.alloc _=wa at *
 go_loopw [4,5] (fun u i wr => ∃ q:Nat,q <= m/\i = .int .i64 ((q:Int) - 1)/\Own wr w5.heap.size [] 3 1 u (m - q) ((D.reverse.take (m - q)).map (.int .i64))/\Below w5.heap.size w5 wr) (fun _ i _=>(intOf i+1).toNat)
 case atStart=>exact ⟨m,aB _,rfl,by rw [dP];exact HO.out,aa.out⟩
 obtain ⟨q,hq,rfl,hO,bm⟩:=hrel
 obtain ⟨oa,oc,rfl⟩:=hO.form
 replace HO:=h! hO
 replace aa:=h! bm
 clear hO bm
 by_cases hlt:0 < q
 ·obtain ⟨p,rfl⟩ : ∃ p,q=p+1:=⟨q - 1,by omega⟩
  rw [show (((p+1:Nat):Int) - 1)=(p:Int) by omega]
  obtain ⟨rfl,cr⟩:=cc.out (by omega)
  have hci:=(aa.out.cell (p:=⟨ib,io+p,none⟩) cr).trans (co.out p (by have:=aj.out;omega))
  have bO:Hid (D.reverse.take (m - p)=D.reverse.take (m - (p+1)) ++ [D.getD p 0]):=h! (by
   rw [show m - p=(m - (p+1))+1 by omega]
   refine eT _ _ _ ?_
   have h1:=aj.out
   rw [List.getElem?_reverse (by omega),show D.length - 1 - (m - (p+1))=p by omega]
   exact fK _ _ (by omega))
  generalize D.getD p 0=y at *
  have ca:=aa.out.size
  have HK:Hid (m - p=m - (p+1)+1):=h! (by omega)
  have hk9:m - (p+1) <= 512:=by omega
  generalize m - (p+1)=k9 at *
  go_wp2_with (at_builtin;refine gF rfl _ _ 22 3 rfl mI rfl rfl (HO.out.alloc _) (Row.of_box (n:=1) (size:=1) (Box.new _ _ _) rfl (by omega)) (by simp [Value.oneCell']) (by unfold maxLen;omega) (by omega) (by simp;omega) (by intro b hb;simp at hb) ?_;intro v3 w3 bt bd bx;have cn:=h! bt;have bz:=h! bx;clear bt bd bx)
  go_roundw
  case rel=>exact ⟨p,by omega,by go_num,by rw [bO.out,aZ,HK.out];exact cn.out,(aa.out.alloc ca _).trans bz.out⟩
  simp [intOf] <;> omega
 obtain rfl:q=0:=by omega
 have an:Hid (Ints wr (.slice oa m oc) (natI O)):=h! (by
  have h1:=HO.out
  rw [Nat.sub_zero,aH (by rw [eR];have:=aj.out;omega)] at h1
  have h2:D.reverse.length=m:=by rw [eR,aj.out]
  have h3:=Ints.of_own (xs:=D.reverse) (by rw [h2];exact h1.row) (by omega) (fun x hx=>ba.out x (List.mem_reverse.1 hx))
  rw [<-cq.out];exact h3)
 have cm:=h! (HW.out.trans (aa.out.mono HW.out.size))
 go_wp2
 go_ret
 exact ⟨_,O,rfl,aw.out,an.out,cm.out⟩
end
end Go.Proofs.YtagabiidbbhhmaaGreat
