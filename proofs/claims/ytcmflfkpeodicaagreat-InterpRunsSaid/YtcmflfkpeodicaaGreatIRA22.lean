/- Part 22. -/
import Derived.Deep.OwnRows
import Derived.Shelf.Slices.Reverse
import Derived.Sort.OwnSortedInts
import Derived.Test.YtcmflfkpeodicaaGreatIRA21
namespace Go.Proofs.YtcmflfkpeodicaaGreat
set_option maxHeartbeats 6400000
set_option linter.all false
section
open Go.RowKit
theorem Kept.more {bs bs' : List Nat} {v v' : Value} {a b:World} (h:Kept bs v v' a b) (hb:∀ x ∈ bs,x ∈ bs'):Kept bs' v v' a b:=⟨h.os,h.tape,h.output,h.size,fun k hk hn=>h.block k hk fun hm=>hn (hb k hm),h.own⟩
theorem tH {P:Program} {w:World} {ops:Array Oper} {rest:List Oper} {o:Oper} {a:Act} {Q:Exit -> Act -> World -> Prop} (hgd:o.guard=none) (s x:Operand) (t e:TypeId)
  (ho:o.op = .call { callee:=.builtin .append,args:=#[s,x],argTypes:=#[t,t] }) {z:Value} {size bytes:Nat} (he:Elem P t e z size bytes) {base:Nat} {bs:List Nat}
  {v xv:Value} {n m:Nat} {cs news:List Value} (hs:a.eval s=v) (hx:a.eval x=xv) (HO:Own w base bs e size v n cs) (hr:Row w xv m size news)
  (h1:∀ u ∈ news,u.oneCell' = true) (h63:n+m <= maxLen) (hbytes:(n+m) * bytes <= 140737488355328) (hbase:base <= w.heap.size) (hbs:∀ b ∈ bs,b < w.heap.size)
  (h:∀ v' w',Own w' base bs e size v' (n+m) (cs ++ news) -> Kept [] v v' w w' -> wpList P ops Q rest (a.put o.dst v') w'):wpList P ops Q (o :: rest) a w:=by
 refine kE hgd s x t e ho he base hs hx HO.row hr h1 h63 hbytes hbase fun v' w' r1 r2 r3=>h v' w' ⟨r1,fun g hg hm => ?_⟩ ⟨r2.os,r2.tape,r2.output,r2.size,fun k hk _ hn=>r2.block k hk (fun e=>hn e.symm),fun k hk => ?_⟩
 ·rcases r3 with e3 | e3
  ·rw [e3] at hg;exact HO.free g hg hm
  rw [e3] at hg;cases hg;exact absurd (hbs _ hm) (by omega)
 ·rcases r3 with e3 | e3
  ·rw [e3] at hk;exact .inl hk
  rw [e3] at hk;cases hk;exact .inr (aF _)
theorem aB2 {P:Program} {w:World} {o:Oper} {a:Act} (s x:Operand) (t e:TypeId)
  (ho:o.op = .call { callee:=.builtin .append,args:=#[s,x],argTypes:=#[t,t] }) {z:Value} {size bytes:Nat} (he:Elem P t e z size bytes) {base:Nat} {bs:List Nat}
  {v xv:Value} {n m:Nat} {cs news:List Value} (hs:a.eval s=v) (hx:a.eval x=xv) (HO:Own w base bs e size v n cs) (hr:Row w xv m size news)
  (h1:∀ u ∈ news,u.oneCell' = true) (h63:n+m <= maxLen) (hbytes:(n+m) * bytes <= 140737488355328) (hbase:base <= w.heap.size) (hbs:∀ b ∈ bs,b < w.heap.size) :
  ∃ v' w',(execOp a.eval o).run P w = .ok (.value v') w' /\ Own w' base bs e size v' (n+m) (cs ++ news)/\Kept [] v v' w w':=by
 obtain ⟨v',w',hrun,r1,r2,r3, -, -⟩:=iV (P:=P) (ty:=o.type) he base HO.row hr h1 h63 hbytes hbase
 refine ⟨v',w', ?_,⟨r1,fun g hg hm => ?_⟩,⟨r2.os,r2.tape,r2.output,r2.size,fun k hk _ hn=>r2.block k hk (fun e=>hn e.symm),fun k hk => ?_⟩⟩
 ·unfold execOp
  simp only [ho,resolve,invoke,builtin,Sem.run_bind,Sem.run_pure,Result.andThen_ok,List.map_toArray,cR,List.map_nil,hs,hx,hrun]
 ·rcases r3 with e3 | e3
  ·rw [e3] at hg;exact HO.free g hg hm
  rw [e3] at hg;cases hg;exact absurd (hbs _ hm) (by omega)
 ·rcases r3 with e3 | e3
  ·rw [e3] at hk;exact .inl hk
  rw [e3] at hk;cases hk;exact .inr (aF _)
def AppS (w0:World) (base:Nat) (bs:List Nat) (e:TypeId) (size:Nat) (v:Value) (n:Nat) (cs:List Value) (u:Value) (w:World):Prop :=
 Own w base bs e size u n cs /\ ∀ k,u.ownBlock=some k -> v.ownBlock=some k \/ w0.heap.size <= k
theorem AppS.later {w0:World} {base:Nat} {bs:List Nat} {e:TypeId} {size:Nat} {v:Value} {n:Nat} {cs:List Value} {u:Value} {w1 w2:World} (h:AppS w0 base bs e size v n cs u w1) (hb:Below w1.heap.size w1 w2):AppS w0 base bs e size v n cs u w2:=⟨h.1.later hb,h.2⟩
theorem pT {P:Program} {w0 w:World} {o:Oper} {a:Act} {XF:Nat -> Foot} {k:Nat} (s x:Operand) (t e:TypeId)
  (ho:o.op = .call { callee:=.builtin .append,args:=#[s,x],argTypes:=#[t,t] }) {z:Value} {size bytes:Nat} (he:Elem P t e z size bytes) {base:Nat} {bs:List Nat}
  {v xv:Value} {n m:Nat} {cs news:List Value} (hs:a.eval s=v) (hx:a.eval x=xv) (HO:Own w base bs e size v n cs) (hr:Row w xv m size news)
  (h1:∀ u ∈ news,u.oneCell' = true) (h63:n+m <= maxLen) (hbytes:(n+m) * bytes <= 140737488355328) (hbase:base <= w.heap.size) (hbs:∀ b ∈ bs,b < w.heap.size) (hw:w0.heap.size <= w.heap.size)
  (hX:∀ q,v.ownBlock=some q -> XF k q) :
  ∃ u w'',(execOp a.eval o).run P w = .ok (.value u) w'' /\ (Known.holds fun u w'=>AppS w0 base bs e size v (n+m) (cs ++ news) u w').spec u w'' /\ Four.Step XF (fun _=>True) k w w'':=by
 obtain ⟨v',w',r1,r2,r3⟩:=aB2 (P:=P) (w:=w) s x t e ho he hs hx HO hr h1 h63 hbytes hbase hbs
 exact ⟨v',w',r1,⟨r2,fun k hk=>(r3.own k hk).imp id (fun h=>aJ hw h)⟩,⟨r3.os,r3.tape,r3.output,r3.size,fun q hq hn=>r3.block q hq (by simp) (fun h=>hn (hX q h))⟩,fun h=>h⟩
theorem uT (k:Nat) (S:Foot):∃ XF:Nat -> Foot,(∀ q,XF k q ↔ S q) /\ ∀ i q,XF i q -> i=k :=
 ⟨fun i=>if i=k then S else Foot.none,fun q=>by simp,fun i q h=>by
  by_cases e:i=k
  ·exact e
  simp only [if_neg e] at h;exact h.elim⟩
theorem VisI.push {N:VisN} {base nb:Nat} {f0 f1 f2 f3 pv lv:Value} {W w2:World} {s:List Bool} {d:List Nat} {ov v2:Value} {b:Nat} (h:VisI N base nb #[f0,f1,f2,f3] pv lv W s d ov)
  (hO:Own w2 base N.list 3 1 v2 (d.length+1) ((d.map fun x:Nat=>Value.int .i64 x) ++ [.int .i64 b])) (hK:Kept [] ov v2 W w2) :
  VisI N base nb #[f0,f1,f2,f3] pv lv (w2.setCell ⟨N.bg,5,none⟩ v2) s (d ++ [b]) v2:=by
 have hn:=h.nodup
 unfold VisN.list at hn
 simp only [eI,bM,dS,or_false,not_or] at hn
 obtain ⟨⟨n1,n2,n3,n4,n5⟩,⟨n6,n7,n8,n9⟩,⟨n10,n11,n12⟩,⟨n13,n14⟩,n15,_⟩:=hn
 have fr:∀ x ∈ N.list,ov.ownBlock ≠ some x:=fun x hx e=>h.own.free x e hx
 refine ⟨(h.begun.kept hK (by simp) (fr _ (by simp [VisN.list]))).other _ n5,(h.flags.kept hK (by simp) (fr _ (by simp [VisN.list]))).other _ n9,(h.fbox.kept hK (by simp) (fr _ (by simp [VisN.list]))).other _ n12,
  (h.vis.kept hK (by simp) (fr _ (by simp [VisN.list]))).other _ n14,(h.gvar.kept hK (by simp) (fr _ (by simp [VisN.list]))).other _ n15, ?_, ?_,h.len,h.nodup⟩
 ·have:=(h.graph.kept hK (by simp) (fr _ (by simp [VisN.list]))).set 5 v2
  simpa using this
 ·have:=hO.other v2 (p:=⟨N.bg,5,none⟩) (by simp [VisN.list])
  rw [aQ,bF]
  exact this
theorem Kept.later {bs:List Nat} {v v' : Value} {a b c:World} (h:Kept bs v v' a b) (hb:Below b.heap.size b c):Kept bs v v' a c:=h.trans (Kept.of_below hb)
theorem VisI.lt {N:VisN} {base nb:Nat} {fa:Array Value} {pv lv:Value} {W:World} {s:List Bool} {d:List Nat} {ov:Value} (h:VisI N base nb fa pv lv W s d ov) {y:Nat} (hy:y ∈ N.list):y < W.heap.size:=by
 simp only [VisN.list,bM,dS,or_false] at hy
 rcases hy with rfl | rfl | rfl | rfl | rfl | rfl
 ·exact h.begun.lt
 ·exact h.flags.lt
 ·exact h.fbox.lt
 ·exact h.vis.lt
 ·exact h.gvar.lt
 exact h.graph.lt
theorem rO:Enters Tryz.prog 212:=enters_of Tryz.func212 (by kernel_rfl) rfl
def VisR (f:FuncD) (N:VisN) (base nb:Nat) (fa:Array Value) (pv lv:Value) (w0 W:World) (s:List Bool) (d:List Nat) (ov:Value) (b:Nat) (e:Ending) (W' : World):Prop :=
 e = .returned (.tuple #[]) /\ ∃ s' d' ov',Steps (toB f) (toB f b) (s.set b true) d s' d' /\ VisI N base nb fa pv lv W' s' (d' ++ [b]) ov' /\ Kept [N.B,N.bg] ov ov' W W' /\ Below w0.heap.size w0 W'
theorem aB3 {w:World} {f:FuncD} {ap:Option Addr} {np cp:Nat} {ar ce:Int} {nb cb b0 bo:Nat} (hnb:nb=f.blocks.length) (hcb:nb <= cb) (hcm:cb <= 9223372036854775807) (hb0:b0 < w.heap.size) (h512:nb <= 512)
  (hbx:∀ (j:Nat) (x:BlockD),f.blocks[j]? = some x -> ∃ api aii ati cpi cii cti,BlockC w b0 (bo+j * 6) x api aii ati cpi cii cti)
  (hto:∀ (j:Nat) (x:BlockD),f.blocks[j]? = some x -> ∀ t ∈ x.term.to,1 <= t/\t < (nb:Int)) {N:VisN} (hbase:∀ b ∈ N.list,w.heap.size <= b) {pv lv:Value} :
  ∀ (m:Nat) (W:World) (s:List Bool) (d:List Nat) (ov:Value) (b:Nat),s.count false <= m -> d.length+s.count false <= 1024 -> VisI N w.heap.size nb #[.slice ap np cp,.int .i64 ar,.int .i64 ce,.slice (some ⟨b0,bo,none⟩) nb cb] pv lv W s d ov -> Below w.heap.size w W -> s[b]? = some false ->
   Calls Tryz.prog 212 #[.int .i64 b,.pointer (some ⟨N.bb,0,none⟩),.pointer (some ⟨N.fb,0,none⟩),.pointer (some ⟨N.vb,0,none⟩),.pointer (some ⟨N.gb,0,none⟩)] W
    (VisR f N w.heap.size nb #[.slice ap np cp,.int .i64 ar,.int .i64 ce,.slice (some ⟨b0,bo,none⟩) nb cb] pv lv w W s d ov b):=by
 intro m
 induction m with
 | zero =>
  intro W s d ov b hm _ _ _ hs
  exfalso
  have:=count_set hs
  omega
 | succ m ih =>
  intro W s d ov b hm hd hvis hW hs
  have HIH:=h! ih
  have HNB:=h! hnb
  have HBX:=h! hbx
  have HTO:=h! hto
  have HBASE:=h! hbase
  have hcs:=count_set hs
  have hbl:b < nb:=by have:=(aE.1 hs).1;rw [hvis.len] at this;exact this
  obtain ⟨x,hx⟩ : ∃ x,f.blocks[b]? = some x:=⟨_,aB (by omega)⟩
  have HX:=h! hx
  obtain ⟨api,aii,ati,cpi,cii,cti,hC⟩:=hbx b x hx
  have HTL:=h! hC.to
  obtain ⟨ta,tc,tb0,to0,hte,htc,htm,hta,htx⟩:=hC.to.parts
  cases hte
  have HTA:=h! hta
  have HTX:=h! htx
  obtain ⟨tl,htl⟩ : ∃ tl,tl=x.term.to.length:=⟨_,rfl⟩
  have HTN:=h! htl
  obtain ⟨k0,k1,k2,k3,k4,k5,q1,q2,q3,q4,q5,q6⟩:=hC.below hW hb0
  clear q1 q2 q3 q4 q5 q6 k0 k1 k2 k3 k5
  rw [<-htl] at k4 htc
  have HC4:=h! k4
  have HV:=h! hvis
  have HW:=h! hW
  have HS:=h! hs
  have HD:=h! hd
  have HCS:=h! hcs
  have HM:=h! hm
  have b1:=hvis.begun
  have b2:=hvis.flags
  obtain ⟨l1,c1,f1⟩:=b1
  obtain ⟨l2,c2,f2⟩:=b2
  have hfl:(fX s)[b]? = some (.bool false):=jQ hs
  clear hvis hW hs hd hcs hm hx hC htl k4 hta htx hnb hbx hto hbase ih
  go_enter Tryz.func212,Tryz.ntmps212
  go_upto_region 1 with (fail)
  clear l1 c1 f1 l2 c2 f2 hfl
  have hv2:=HV.out.flag b true
  have hk2:Kept [N.B,N.bg] ov ov W (W.setCell ⟨N.B,b,none⟩ (.bool true)):=Kept.set W _ (by simp)
  have hw2:=hk2.below HW.out (by intro y hy;exact HBASE.out y (by simp at hy;rcases hy with rfl | rfl <;> simp [VisN.list])) (fun k hk=>(HV.out.own.lt hk).2)
  have hc4:=(hw2.cell (p:=⟨b0,bo+b * 6+4,none⟩) hb0)
  have HV2:=h! hv2
  have HK2:=h! hk2
  have HW2:=h! hw2
  generalize W.setCell ⟨N.B,b,none⟩ (.bool true)=W1 at *
  clear hv2 hk2 hw2
  rw [<-(HW.out.cell (p:=⟨b0,bo+b * 6+4,none⟩) hb0),HC4.out] at hc4
  obtain ⟨l3,c3,f3⟩:=HV2.out.fbox
  go_upto_region 2 with (fail)
  clear l3 c3 f3 hc4 HC4
  go_loopw [19] (fun i wr => ∃ (k:Nat) (s' : List Bool) (d' : List Nat) (ov' : Value),k <= tl/\i = .int .i64 k/\Steps (toB f) ((toB f b).take k) (s.set b true) d s' d' /\ VisI N w.heap.size nb #[.slice ap np cp,.int .i64 ar,.int .i64 ce,.slice (some ⟨b0,bo,none⟩) nb cb] pv lv wr s' d' ov' /\ Kept [N.B,N.bg] ov ov' W wr/\Below w.heap.size w wr ) (fun i _=>tl - (intOf i).toNat)
  case atStart=>exact ⟨0,_,_,ov,aP _,rfl,Steps.nil _ _,HV2.out,HK2.out,HW2.out⟩
  obtain ⟨k,s',d',ov',hk,rfl,hst,hV,hK,hWr⟩:=hrel
  have HST:=h! hst
  replace HV:=h! hV
  have HK:=h! hK
  have HWR:=h! hWr
  have HDR:Hid (d'.length+s'.count false+1 <= 1024):=h! (by have h1:=hst.total;have h2:=HCS.out;have h3:=HD.out;omega)
  clear hst hV hK hWr HV2 HK2 HW2
  generalize wr=W2 at *
  by_cases hlt:k < tl
  ·obtain ⟨rfl,hbt⟩:=HTA.out (by have:=HTN.out;omega)
   obtain ⟨t,ht⟩ : ∃ t,t=x.term.to.getD k 0:=⟨_,rfl⟩
   have htm:x.term.to[k]? = some t:=by rw [ht];exact eX _ _ (by have:=HTN.out;omega)
   have htr:=HTO.out b x HX.out t (aG htm)
   obtain ⟨tn,rfl⟩ : ∃ tn:Nat,t=(tn:Int):=⟨t.toNat,by omega⟩
   have htn:tn < nb:=by omega
   have hct:W2.cell? ⟨tb0,to0+k,none⟩=some (.int .i64 tn):=by
    rw [HWR.out.cell (p:=⟨tb0,to0+k,none⟩) hbt,HTX.out k (by have:=HTN.out;omega), <-ht]
   have HTK:Hid ((toB f b).take (k+1)=(toB f b).take k ++ [tn]):=h! (by
    rw [oN HX.out]
    exact eP _ k tn (by rw [aU,htm];simp))
   obtain ⟨l1,c1,f1⟩:=HV.out.begun
   obtain ⟨l2,c2,f2⟩:=HV.out.flags
   obtain ⟨sb,hsb⟩ : ∃ sb,s'[tn]? = some sb:=⟨_,aB (by rw [HV.out.len];exact htn)⟩
   have hfl:=jQ hsb
   have HSB:=h! hsb
   clear ht htm htr hsb
   cases sb
   ·obtain ⟨l4,c4,f4⟩:=HV.out.vis
    have HC0:=h! (HIH.out W2 s' d' ov' tn (by have:=HST.out.count;have:=HCS.out;have:=HM.out;omega) (by have:=HDR.out;omega) HV.out HWR.out HSB.out)
    have eg1:∀ (args:Array Value) (w:World),(callFunc 212 args).run Tryz.prog w = .ok (.enter 212 args) w:=rO
    go_wp2_with (go_at_fn 212;refine HC0.out.mono ?_;rintro e W3 ⟨rfl,s3,d3,ov3,hs3,hv3,hk3,hw3⟩;have HS3:=h! hs3;have HV3:=h! hv3;have HK3:=h! hk3;have HW3:=h! hw3;clear hs3 hv3 hk3 hw3)
    go_roundw
    case rel =>
     exact ⟨k+1,s3,d3 ++ [tn],ov3,hlt,by go_num,by rw [HTK.out];exact HST.out.append (.go HSB.out HS3.out (.nil _ _)),HV3.out,HK.out.trans HK3.out,HW3.out⟩
    simp [intOf];omega
   go_wp2
   go_roundw
   case rel=>exact ⟨k+1,s',d',ov',hlt,by go_num,by rw [HTK.out];exact HST.out.append (.skip HSB.out (.nil _ _)),HV.out,HK.out,HWR.out⟩
   simp [intOf];omega
  obtain rfl:k=tl:=by omega
  rw [aI (by rw [oN HX.out,bD];exact Nat.le_of_eq HTN.out.symm)] at HST
  obtain ⟨oa,oc,rfl⟩:=HV.out.own.form
  have GB:=h! HV.out.gvar
  have BG:Hid (Box W2 N.bg #[.slice ap np cp,.int .i64 ar,.int .i64 ce,.slice (some ⟨b0,bo,none⟩) nb cb,pv,.slice oa d'.length oc,lv]):=h! (by simpa using HV.out.graph)
  have HBS:Hid (∀ y ∈ N.list,w.heap.size <= y):=HBASE
  replace HW:=HWR
  clear HWR HBX HIH
  obtain ⟨lGB,cGB,fGB⟩:=GB.out
  obtain ⟨lBG,cBG,fBG⟩:=BG.out
  go_upto_region 7 with (fail)
  have hdr:=HDR.out
  obtain ⟨XF,hX7,hXQ⟩:=uT 7 (fun q=>(Value.slice oa d'.length oc).ownBlock=some q)
  have HX:=h! (And.intro hX7 hXQ)
  have HXO:Hid (∀ q,Four.All XF q -> (Value.slice oa d'.length oc).ownBlock=some q):=h! (fun q ⟨i,h⟩=>by obtain rfl:=HX.out.2 i q h;exact (HX.out.1 q).1 h)
  have xW:∀ i q,XF i q -> q < W2.heap.size:=fun i q h=>(HV.out.own.lt (HXO.out q ⟨i,h⟩)).1
  have xI:∀ w w' : World,True -> Below w.heap.size w w' -> True:=fun _ _ _ _=>trivial
  have xI0:True:=trivial
  have xBASE:∀ q,q < W2.heap.size -> Four.All XF q -> w.heap.size <= q:=fun q _ h=>(HV.out.own.lt (HXO.out q h)).2
  have xALL:∀ y ∈ N.list, ¬ Four.All XF y:=fun y hy h=>HV.out.own.free _ (HXO.out y h) hy
  have xGB:¬ Four.All XF N.gb:=xALL _ (by simp [VisN.list])
  have xBG:¬ Four.All XF N.bg:=xALL _ (by simp [VisN.list])
  clear hX7 hXQ xALL
  refine Four.wp_region_grow (XF:=XF) (I:=(fun _=>True)) 8 (fun ν kz=>match kz with | 6=>.made W2.heap.size (fun b=>.slice (some ⟨b,0,none⟩) 1 1) #[.int .i64 b] | 7=>.holds (fun u w'=>AppS W2 w.heap.size N.list 3 1 (.slice oa d'.length oc) (d'.length+1) ((d'.map fun x:Nat=>Value.int .i64 x) ++ [.int .i64 b]) u w') | _=>.plain) (by kernel_rfl) (by kernel_rfl) ?_ ?_ xW xI xI0 ?_ (fun ν => ?_)
  ·(intro ν k;(try dsimp only);split <;> first | exact True.intro | (intro u w1 w2 hu hb;exact hu.later (hb.below (Nat.le_refl _) (fun q _ ⟨j,hj,h⟩=>absurd (HX.out.2 j q h) hj))))
  ·(intro ν ν' k h;first | rfl | ((try dsimp only);split <;> first | rfl))
  ·(intro ν j B mk A h;(try dsimp only at h);split at h <;> first | (cases h;exact Nat.le_refl _) | cases h)
  simp only [aK,aR,aM,aT]
  iterate 6 (refine Four.Grow.val (v := ?_) rfl rfl (fun wg hbg hdg => ?_) ?_;rotate_left;(focus ((obtain ⟨lg0,cg0,fg0⟩:=GB.out.off hbg.off xGB);(obtain ⟨lg1,cg1,fg1⟩:=BG.out.off hbg.off xBG);clear hbg hdg;first | (go_simp;done) | (go_simp;with_reducible rfl)));simp only [Act.put,aA,aC,aD])
  refine Four.Grow.made (T := ?_) rfl rfl (fun wg hbg hdg => ?_) ?_
  rotate_left
  focus ((obtain ⟨lg0,cg0,fg0⟩:=GB.out.off hbg.off xGB);(obtain ⟨lg1,cg1,fg1⟩:=BG.out.off hbg.off xBG);clear hbg hdg;first | (go_simp;done) | (go_simp;with_reducible rfl))
  simp only [Act.put,Known.val,aA,aC,aD]
  refine Four.Grow.gives rfl (fun wg hbg hdg => ?_) ?_
  focus ((obtain ⟨bn,e6,hbn,hB6⟩:=hdg 6 (by kernel_rfl);have hb0:Below W2.heap.size W2 wg:=hbg.1.below (aF _) (fun q _ ⟨j,hj,_,h⟩=>absurd (HX.out.2 j q h) hj);have hs0:=hb0.size;simp only [e6];exact pT (.tmp 36) (.tmp 38) 22 3 rfl mA rfl rfl (HV.out.own.later hb0) (Row.of_box (n:=1) (size:=1) hB6 rfl (by omega)) (by simp [Value.oneCell']) (by unfold maxLen;omega) (by omega) (aJ HW.out.size hs0) (fun y hy=>aL (HV.out.lt hy) hs0) hs0 (fun q hq=>(HX.out.1 q).2 hq)))
  simp only [Act.put,Known.val,aA,aC,aD]
  intro wg hb hf hap
  obtain ⟨bBN,hνBN,hBBN,hXBN⟩:=hf 6 (by omega)
  have nBNGB:bBN ≠ N.gb:=fun e=>by have:=lGB;omega
  have nGBBN:N.gb ≠ bBN:=fun e=>nBNGB e.symm
  have nBNBG:bBN ≠ N.bg:=fun e=>by have:=lBG;omega
  have nBGBN:N.bg ≠ bBN:=fun e=>nBNBG e.symm
  simp only [hνBN]
  clear hνBN
  clear hap
  have gBN:=aJ HW.out.size hBBN
  clear hBBN
  clear lGB cGB fGB lBG cBG fBG
  replace GB:=h! (GB.out.off hb.1 xGB)
  replace BG:=h! (BG.out.off hb.1 xBG)
  replace HW:=h! (HW.out.trans (hb.1.below HW.out.size xBASE))
  have BN:=h! hXBN
  clear hXBN
  obtain ⟨lGB,cGB,fGB⟩:=GB.out
  obtain ⟨lBG,cBG,fBG⟩:=BG.out
  obtain ⟨lBN,cBN,fBN⟩:=BN.out
  have hS:AppS W2 w.heap.size N.list 3 1 (.slice oa d'.length oc) (d'.length+1) ((d'.map fun x:Nat=>Value.int .i64 x) ++ [.int .i64 b]) (ν 7) wg:=hf 7 (by omega)
  clear hf
  obtain ⟨hO7,hown7⟩:=hS
  obtain ⟨oa7,oc7,e7⟩:=hO7.form
  rw [e7] at hO7 hown7
  simp only [e7]
  have hK7:Kept [] (.slice oa d'.length oc) (.slice oa7 (d'.length+1) oc7) W2 wg:=⟨hb.1.os,hb.1.tape,hb.1.output,hb.1.size,fun k hk _ hn=>hb.1.block k hk (fun hm=>hn (HXO.out k hm)),hown7⟩
  have HV3:=h! (HV.out.push hO7 hK7)
  have HK3:=h! ((HK.out.trans (hK7.more (by simp))).trans (Kept.set (bs:=[N.B,N.bg]) wg (p:=⟨N.bg,5,none⟩) (.slice oa7 (d'.length+1) oc7) (by simp)))
  have HW3:=h! (HW.out.setCell (p:=⟨N.bg,5,none⟩) (HBASE.out _ (by simp [VisN.list])) (.slice oa7 (d'.length+1) oc7))
  clear hO7 hown7 hK7 hb e7 BN
  go_wp2
  exact bodyPost_end (v:=.tuple #[]) (by simp [results,Tryz.results212,go_sem, *]) rfl ⟨rfl,s',d',_,HST.out,HV3.out,HK3.out,HW3.out⟩
end
section
open Go.RowKit
def idxI (xs:List Int) (x:Int):Int:=if x ∈ xs then (xs.idxOf x:Nat) else -1
theorem zS {xs:List Int} {x:Int} {k:Nat} (h:xs[k]? = some x) (hno:x ∉ xs.take k):idxI xs x=k:=by
 unfold idxI
 rw [if_pos (aG h)]
 have h1:=cV k xs
 have hk:=(aE.1 h).1
 have h2:xs.drop k=x :: xs.drop (k+1):=by rw [List.drop_eq_getElem_cons hk];rw [(aE.1 h).2]
 rw [<-h1,h2,List.idxOf_append,if_neg hno,List.idxOf_cons_self,aX]
 omega
theorem zT {xs:List Int} {x:Int} (h:x ∉ xs):idxI xs x = -1:=if_neg h
theorem aEJ {xs:List Int} {x:Int}:decide (0 <= idxI xs x)=xs.contains x:=by
 unfold idxI
 by_cases h:x ∈ xs
 ·rw [if_pos h];simp [h]
 rw [if_neg h];simp [h]
theorem oJ {w:World} {v:Value} {xs:List Int} {x:Int} (hs:Ints w v xs) :
  Calls Tryz.prog 76 #[v,.int .i64 x] w fun e w'=>e = .returned (.int .i64 (idxI xs x))/\w=w':=by
 have hle:=hs.le
 obtain ⟨a,cap,b,off,rfl,h1,h2,h3,h4⟩:=hs.parts
 obtain ⟨n,hn⟩ : ∃ n,n=xs.length:=⟨_,rfl⟩
 rw [<-hn] at h1 h3 hle ⊢
 have HN:=h! hn
 have H3:=h! h3
 have H4:=h! h4
 clear hs h3 h4 hn
 go_enter Tryz.func76,Tryz.ntmps76
 go_wp2_with fail
 go_loopw [8] (fun i wr => ∃ k:Nat,k <= n/\i = .int .i64 k/\x ∉ xs.take k/\wr=w) (fun i _=>n - (intOf i).toNat)
 case atStart=>exact ⟨0,aP _,rfl,by simp,rfl⟩
 case round =>
  obtain ⟨k,hk,rfl,hno,rfl⟩:=hrel
  have HNO:=h! hno
  clear hno
  by_cases hlt:k < n
  ·obtain ⟨rfl,hb⟩:=H3.out (by omega)
   obtain ⟨y,hy⟩ : ∃ y,xs[k]? = some y:=⟨_,aB (by have:=HN.out;omega)⟩
   have hc:=H4.out k (by have:=HN.out;omega)
   rw [show xs.getD k 0=y by rw [aH,hy];rfl] at hc
   have HY:=h! hy
   clear hy
   cases hxy:(x == y)
   ·have HXY:=h! hxy
    go_wp2
    go_roundw
    case rel=>exact ⟨k+1,hlt,by go_num,by rw [eP xs k y HY.out];have:=HXY.out;have:=HNO.out;simp at *;grind,trivial⟩
    simp [intOf];omega
   have HXY:=h! hxy
   go_wp2
   go_ret
   have e:y=x:=by have:=HXY.out;simp at this;grind
   exact ⟨by rw [zS (e ▸ HY.out) HNO.out];rfl,rfl⟩
  obtain rfl:k=n:=by omega
  have HNX:Hid (x ∉ xs):=h! (by have:=HNO.out;rwa [aI (by have:=HN.out;omega)] at this)
  go_wp2
  go_ret
  exact ⟨by rw [zT HNX.out];rfl,rfl⟩
theorem aDA {w:World} {v:Value} {xs:List Int} {x:Int} (hs:Ints w v xs) :
  Calls Tryz.prog 29 #[v,.int .i64 x] w fun e w'=>e = .returned (.bool (xs.contains x))/\w=w':=by
 have hle:=hs.le
 obtain ⟨a,cap,b,off,rfl,h1,h2,h3,h4⟩:=hs.parts
 obtain ⟨n,hn⟩ : ∃ n,n=xs.length:=⟨_,rfl⟩
 rw [<-hn] at h1 h3 hle ⊢
 have HN:=h! hn
 have H3:=h! h3
 have H4:=h! h4
 clear hs h3 h4 hn
 go_enter Tryz.func29,Tryz.ntmps29
 go_wp2_with fail
 go_loopw [5] (fun i wr => ∃ k:Nat,k <= n/\i = .int .i64 k/\x ∉ xs.take k/\wr=w) (fun i _=>n - (intOf i).toNat)
 case atStart=>exact ⟨0,aP _,rfl,by simp,rfl⟩
 case round =>
  obtain ⟨k,hk,rfl,hno,rfl⟩:=hrel
  have HNO:=h! hno
  clear hno
  by_cases hlt:k < n
  ·obtain ⟨rfl,hb⟩:=H3.out (by omega)
   obtain ⟨y,hy⟩ : ∃ y,xs[k]? = some y:=⟨_,aB (by have:=HN.out;omega)⟩
   have hc:=H4.out k (by have:=HN.out;omega)
   rw [show xs.getD k 0=y by rw [aH,hy];rfl] at hc
   have HY:=h! hy
   clear hy
   cases hxy:(y == x)
   ·have HXY:=h! hxy
    go_wp2
    go_roundw
    case rel=>exact ⟨k+1,hlt,by go_num,by rw [eP xs k y HY.out];have:=HXY.out;have:=HNO.out;simp at *;grind,trivial⟩
    simp [intOf];omega
   have HXY:=h! hxy
   go_wp2
   go_ret
   have e:y=x:=by have:=HXY.out;simp at this;grind
   exact ⟨fS (by have h9:=aG (e ▸ HY.out);simp [h9]),rfl⟩
  obtain rfl:k=n:=by omega
  have HNX:Hid (x ∉ xs):=h! (by have:=HNO.out;rwa [aI (by have:=HN.out;omega)] at this)
  go_wp2
  go_ret
  exact ⟨fS (by have h9:=HNX.out;simp [h9]),rfl⟩
theorem rP {w:World} {v:Value} {xs:List Int} {x:Int} (hs:Ints w v xs) :
  Calls Tryz.prog 110 #[v,.int .i64 x] w fun e w'=>e = .returned (.bool (xs.contains x))/\w=w':=by
 have HS:=h! hs
 have HI:=h! (aEJ (xs:=xs) (x:=x))
 clear hs
 go_enter Tryz.func110,Tryz.ntmps110
 go_wp2_with fail
 refine (oJ HS.out).mono ?_
 rintro e w' ⟨rfl,rfl⟩
 generalize idxI xs x=q at *
 go_wp2
 go_ret
 exact ⟨fS HI.out,rfl⟩
end
section
open Go.RowKit
structure Bag (W:World) (base:Nat) (bs:List Nat) (BP:Nat) (T:TypeId) (vs:List Value) (xss:List (List Int)):Prop where
 box:Box W BP vs.toArray
 len:vs.length=xss.length
 own:∀ (j:Nat) (v:Value) (xs:List Int),vs[j]? = some v -> xss[j]? = some xs -> Own W base (BP :: bs) T 1 v xs.length (xs.map (.int .i64))
 apart:∀ (i j:Nat) (u v:Value) (g:Nat),i ≠ j -> vs[i]? = some u -> vs[j]? = some v -> u.ownBlock=some g -> v.ownBlock ≠ some g
theorem Bag.both {W:World} {base:Nat} {bs:List Nat} {BP:Nat} {T:TypeId} {vs:List Value} {xss:List (List Int)} (h:Bag W base bs BP T vs xss) {j:Nat} {v:Value} (hv:vs[j]? = some v):∃ xs,xss[j]? = some xs :=
 ⟨_,aB (by rw [<-h.len];exact (aE.1 hv).1)⟩
theorem Bag.at {W:World} {base:Nat} {bs:List Nat} {BP:Nat} {T:TypeId} {vs:List Value} {xss:List (List Int)} (h:Bag W base bs BP T vs xss) {j:Nat} {xs:List Int} (hx:xss[j]? = some xs):∃ v,vs[j]? = some v/\W.cell? ⟨BP,j,none⟩=some v/\Own W base (BP :: bs) T 1 v xs.length (xs.map (.int .i64)):=by
 have hj:j < vs.length:=by rw [h.len];exact (aE.1 hx).1
 refine ⟨vs[j],aB hj,h.box.at j (by simp [hj]),h.own j _ _ (aB hj) hx⟩
theorem Bag.keep {W W' : World} {base:Nat} {bs:List Nat} {BP:Nat} {T:TypeId} {vs:List Value} {xss:List (List Int)} (h:Bag W base bs BP T vs xss) (hB:Box W' BP vs.toArray) (hk:∀ (j:Nat) (v:Value) (g:Nat),vs[j]? = some v -> v.ownBlock=some g -> W'.heap[g]? = W.heap[g]?):Bag W' base bs BP T vs xss :=
 ⟨hB,h.len,fun j v xs hv hx=>(h.own j v xs hv hx).keep fun g hg=>hk j v g hv hg,h.apart⟩
theorem Bag.later {W W' : World} {base:Nat} {bs:List Nat} {BP:Nat} {T:TypeId} {vs:List Value} {xss:List (List Int)} (h:Bag W base bs BP T vs xss) (hb:Below W.heap.size W W'):Bag W' base bs BP T vs xss :=
 h.keep (h.box.later hb) fun j v g hv hg=>by
  obtain ⟨xs,hx⟩:=h.both hv
  exact hb.block g ((h.own j v xs hv hx).lt hg).1
theorem Bag.alloc {W:World} {base:Nat} {bs:List Nat} {BP:Nat} {T:TypeId} {vs:List Value} {xss:List (List Int)} (h:Bag W base bs BP T vs xss) (o:Obj):Bag (W.alloc o) base bs BP T vs xss:=h.later ((Below.refl _ _).alloc (aF _) o)
theorem Bag.other {W:World} {base:Nat} {bs:List Nat} {BP:Nat} {T:TypeId} {vs:List Value} {xss:List (List Int)} (h:Bag W base bs BP T vs xss) {p:Addr} (u:Value) (hp:p.block ∈ bs) (hne:BP ≠ p.block):Bag (W.setCell p u) base bs BP T vs xss :=
 h.keep (h.box.other u hne) fun j v g hv hg=>by
  obtain ⟨xs,hx⟩:=h.both hv
  exact Below.heap_setCell W p u g fun e=>(h.own j v xs hv hx).free g hg (by rw [e];exact cL _ hp)
theorem Bag.turn {W W' : World} {base:Nat} {bs ts:List Nat} {BP:Nat} {T:TypeId} {vs:List Value} {xss:List (List Int)} (h:Bag W base bs BP T vs xss) (ht:Turn ts W W') (hB:BP ∉ ts) (hts:∀ x ∈ ts,x ∈ bs):Bag W' base bs BP T vs xss :=
 h.keep (h.box.turn ht hB) fun j v g hv hg=>by
  obtain ⟨xs,hx⟩:=h.both hv
  exact ht.block g ((h.own j v xs hv hx).lt hg).1 fun hm=>(h.own j v xs hv hx).free g hg (cL _ (hts g hm))
theorem Bag.kept {W W' : World} {base:Nat} {bs ts:List Nat} {ov ov' : Value} {BP:Nat} {T:TypeId} {vs:List Value} {xss:List (List Int)} (h:Bag W base bs BP T vs xss) (ht:Kept ts ov ov' W W') (hn:ov.ownBlock=none) (hB:BP ∉ ts) (hts:∀ x ∈ ts,x ∈ bs):Bag W' base bs BP T vs xss :=
 h.turn (ts:=ts) ⟨ht.os,ht.tape,ht.output,ht.size,fun k hk hm=>ht.block k hk hm (by rw [hn];simp)⟩ hB hts
theorem Bag.less {W:World} {base:Nat} {bs bs' : List Nat} {BP:Nat} {T:TypeId} {vs:List Value} {xss:List (List Int)} (h:Bag W base bs BP T vs xss) (hb:∀ x ∈ bs',x ∈ bs):Bag W base bs' BP T vs xss :=
 ⟨h.box,h.len,fun j v xs hv hx=>(h.own j v xs hv hx).less (fun b hm=>by
  rcases bM.1 hm with rfl | hm
  ·exact dG
  exact cL _ (hb b hm)),h.apart⟩
theorem Bag.more {W:World} {base:Nat} {bs:List Nat} {BP:Nat} {T:TypeId} {vs:List Value} {xss:List (List Int)} (h:Bag W base bs BP T vs xss) {b:Nat} (hb:W.heap.size <= b):Bag W base (b :: bs) BP T vs xss :=
 ⟨h.box,h.len,fun j v xs hv hx=>((h.own j v xs hv hx).more hb).less (fun x hm=>by simp at hm ⊢;rcases hm with rfl | rfl | hm <;> simp [*]),h.apart⟩
theorem Bag.empty {W:World} {base BP:Nat} {bs:List Nat} {T:TypeId} {n:Nat} (h:Box W BP (madeCells #[.slice none 0 0] n)):Bag W base bs BP T (List.replicate n (.slice none 0 0)) (List.replicate n []):=by
 refine ⟨?_,by simp,fun j v xs hv hx => ?_,fun i j u v g _ hu _ hg => ?_⟩
 ·have:madeCells #[Value.slice none 0 0] n=(List.replicate n (Value.slice none 0 0)).toArray:=by
   rw [<-toList_madeCells_one]
  rwa [this] at h
 ·have h1:=bX (aG hv)
  have h2:=bX (aG hx)
  subst h1 h2
  exact Own.nil
 have h1:=bX (aG hu)
 subst h1
 cases hg
theorem Bag.put {W w2:World} {base:Nat} {bs:List Nat} {BP:Nat} {T:TypeId} {vs:List Value} {xss:List (List Int)} (h:Bag W base bs BP T vs xss) {j:Nat} {v v2:Value} {xs ys:List Int} (hv:vs[j]? = some v) (hx:xss[j]? = some xs)
  (hO:Own w2 base (BP :: bs) T 1 v2 ys.length (ys.map (.int .i64))) (hK:Kept [] v v2 W w2):Bag (w2.setCell ⟨BP,j,none⟩ v2) base bs BP T (vs.set j v2) (xss.set j ys):=by
 have hown:=h.own j v xs hv hx
 have hfr:v.ownBlock ≠ some BP:=fun e=>hown.free _ e dG
 refine ⟨?_,by rw [bY,bY];exact h.len,fun i u zs hu hz => ?_,fun a b u u2 g hab hu hu2 hg => ?_⟩
 ·have:=(h.box.kept hK (by simp) hfr).set j v2
  rwa [aA] at this
 ·rw [cP] at hu hz
  by_cases e:j=i
  ·subst e
   have h1:j < vs.length:=(aE.1 hv).1
   have h2:j < xss.length:=(aE.1 hx).1
   simp only [if_true,h1,h2] at hu hz
   cases hu;cases hz
   exact hO.other _ dG
  rw [if_neg e] at hu hz
  have h1:=h.own i u zs hu hz
  refine (h1.keep fun g hg=>hK.block g (h1.lt hg).1 (by simp) fun e2 => ?_).other _ dG
  exact h.apart i j u v g (Ne.symm e) hu hv hg e2
 ·rw [cP] at hu hu2
  have h1:j < vs.length:=(aE.1 hv).1
  by_cases e:j=a
  ·subst e
   rw [if_neg hab] at hu2
   simp only [if_true,h1] at hu
   cases hu
   intro e2
   obtain ⟨zs,hz⟩:=h.both hu2
   have h3:=(h.own b u2 zs hu2 hz).lt e2
   rcases hK.own g hg with h4 | h4
   ·exact h.apart j b v u2 g hab hv hu2 h4 e2
   omega
  rw [if_neg e] at hu
  by_cases e3:j=b
  ·subst e3
   simp only [if_true,h1] at hu2
   cases hu2
   intro e2
   obtain ⟨zs,hz⟩:=h.both hu
   have h3:=(h.own a u zs hu hz).lt hg
   rcases hK.own g e2 with h4 | h4
   ·exact h.apart a j u v g (Ne.symm e) hu hv hg h4
   omega
  rw [if_neg e3] at hu2
  exact h.apart a b u u2 g hab hu hu2 hg
theorem Bag.lists {W:World} {base:Nat} {bs:List Nat} {BP:Nat} {T:TypeId} {vs:List Value} {xss:List (List Int)} (h:Bag W base bs BP T vs xss) (hn:xss.length <= 17592186044416) (hx:∀ xs ∈ xss,xs.length <= 17592186044416 /\ ∀ x ∈ xs,In64 x) :
  kR W (.slice (some ⟨BP,0,none⟩) xss.length xss.length) xss:=by
 refine ⟨vs,h.len,Row.of_box (n:=xss.length) (size:=1) h.box (by simp [h.len]) hn,fun j hj => ?_⟩
 obtain ⟨v,hv,_,hO⟩:=h.at (aB hj)
 have e1:vs.getD j undef=v:=by rw [aH,hv];rfl
 have e2:xss.getD j []=xss[j]:=by rw [aH,aB hj];rfl
 rw [e1,e2]
 obtain ⟨h1,h2⟩:=hx _ (dJ hj)
 exact Ints.of_own hO.row h1 h2
end
section
open Go.RowKit Go.Shelf
def tI:Go.Shelf.Ren:=⟨fun | 112=>213 | n=>n,
 fun | 28=>22 | 3=>3 | 0=>0 | 4=>4 | n=>n,
 fun | n=>n⟩
theorem zU:Go.Proofs.Lays.n112 Tryz.prog tI := {
 mixed:=by kernel_rfl
 f112:=Tryz.func213.trans (congrArg some (by kernel_rfl))
 t0:=Tryz.underlying0
 a0:=Tryz.isAgg0
 z0:=Tryz.sizeOf0
 v0:=Tryz.zeroValue0
 t3:=Tryz.underlying3
 a3:=Tryz.isAgg3
 z3:=Tryz.sizeOf3
 v3:=Tryz.zeroValue3
 t4:=Tryz.underlying4
 a4:=Tryz.isAgg4
 z4:=Tryz.sizeOf4
 v4:=Tryz.zeroValue4
 t28:=Tryz.underlying22
 a28:=Tryz.isAgg22
 z28:=Tryz.sizeOf22
 v28:=Tryz.zeroValue22 }
theorem xA {w:World} {base:Nat} {bs:List Nat} {u:Value} {xs:List Int} (h:Own w base bs 3 1 u xs.length (xs.map (.int .i64))) (hn:xs.length <= 17592186044416) :
  Calls Tryz.prog 213 #[u] w fun e w'=>e = .returned (.tuple #[])/\Own w' base bs 3 1 u xs.length (xs.reverse.map (.int .i64))/\Kept [] u u w w':=by
 rcases h.row.2 with ⟨rfl,h0⟩ | ⟨g,cap,cur,rfl,hbg,hh,h1,h2,h3,h4⟩
 ·have hx:xs=[]:=cJ h0
  subst hx
  refine (Any.slices_Reverse_int_empty zU none 0 w).mono ?_
  rintro e w' ⟨rfl,rfl⟩
  exact ⟨rfl,h,Kept.refl _ _ _⟩
 ·refine (Any.slices_Reverse_int zU g 0 cap xs w (Go.holds_of_blockI hh (by rw [eF] at h4;exact h4)) (by omega)).mono ?_
  rintro e w' ⟨rfl,nd,hw⟩
  have e0:Go.Sort.putRow (Value.int .i64) (Go.Sort.ahead w nd) g 0 xs.reverse.toArray=Go.Sort.grow (Go.Sort.putRow (Value.int .i64) (Go.Sort.ahead w nd) g 0 xs.reverse.toArray) #[]:=by simp only [Go.Sort.grow,Array.append_empty]
  have hg:=Go.grownBy_sortedI (w:=w) (g:=g) (n:=nd) (os:=#[]) xs.reverse.toArray
  rw [<-e0, <-hw] at hg
  refine ⟨rfl,⟨?_,h.free⟩,⟨hg.os,hg.tape,hg.output,hg.size,fun k hk _ hn=>hg.block k hk (fun e=>hn e.symm),fun k hk=>.inl hk⟩⟩
  rw [hw,e0]
  exact Go.ownsRow_sortedI (by simp) hbg hh h1 h2 h3
end
section
open Go.RowKit
def fO (f:FuncD) (i k t:Nat):List Nat:=((List.range i).filter fun b=>(toB f b).contains t) ++ (if ((toB f i).take k).contains t then [i] else [])
def natI (l:List Nat):List Int:=l.map fun b:Nat=>(b:Int)
def jV (f:FuncD) (i k:Nat):List (List Int):=(List.range f.blocks.length).map fun t=>natI (fO f i k t)
def gB (f:FuncD):List (List Int):=jV f f.blocks.length 0
theorem gJ (f:FuncD) (i t:Nat):fO f i 0 t=(List.range i).filter fun b=>(toB f b).contains t:=by simp [fO]
theorem gR (f:FuncD) (i k:Nat):(jV f i k).length=f.blocks.length:=by simp [jV]
theorem jZ {f:FuncD} {i k t:Nat} (h:t < f.blocks.length):(jV f i k)[t]? = some (natI (fO f i k t)):=by simp [jV,h]
theorem tJ (f:FuncD):jV f 0 0=List.replicate f.blocks.length []:=by
 apply bN
 intro t
 by_cases h:t < f.blocks.length
 ·rw [jZ h,gJ];simp [h,natI]
 rw [aW (by rw [gR];omega),aW (by simp;omega)]
theorem nX (f:FuncD) (i k t:Nat):(fO f i k t).length <= i+1:=by
 unfold fO
 rw [aQ]
 have h1:=List.length_filter_le (fun b=>(toB f b).contains t) (List.range i)
 rw [List.length_range] at h1
 split
 ·simp only [bB,cD];omega
 simp only [cD];omega
theorem aB4 {f:FuncD} {i k t b:Nat} (h:b ∈ fO f i k t):b <= i:=by
 unfold fO at h
 rcases aO.1 h with h | h
 ·have:=(List.mem_filter.1 h).1;rw [cO] at this;omega
 split at h
 ·simp at h;omega
 simp at h
theorem kT {l:List Nat} {k t:Nat} (h:l[k]? = some t) (u:Nat):(l.take (k+1)).contains u=((l.take k).contains u || u == t):=by
 rw [bU,h]
 simp [List.contains_eq_mem,aO,Bool.decide_or]
 rfl
theorem zV {f:FuncD} {i k t:Nat} (hk:(toB f i)[k]? = some t) (hno:((toB f i).take k).contains t=false) (ht:t < f.blocks.length):(jV f i k).set t (natI (fO f i k t ++ [i]))=jV f i (k+1):=by
 apply bN
 intro u
 rw [cP,gR]
 by_cases hu:u < f.blocks.length
 ·rw [jZ hu,jZ hu]
  by_cases e:t=u
  ·subst e
   rw [if_pos rfl,if_pos hu]
   unfold fO
   rw [kT hk,hno]
   simp
  rw [if_neg e]
  unfold fO
  rw [kT hk,show (u == t)=false by simpa using Ne.symm e,Bool.or_false]
 rw [aW (by rw [gR];omega),aW (by rw [gR];omega)]
 split <;> simp_all
theorem zW {f:FuncD} {i k t:Nat} (hk:(toB f i)[k]? = some t) (hin:((toB f i).take k).contains t=true):jV f i (k+1)=jV f i k:=by
 unfold jV
 refine dR fun u _ => ?_
 unfold fO
 rw [kT hk]
 by_cases e:u=t
 ·subst e;rw [hin];simp
 rw [show (u == t)=false by simpa using e,Bool.or_false]
theorem xB (f:FuncD) (i:Nat):jV f i (toB f i).length=jV f (i+1) 0:=by
 unfold jV
 refine dR fun u _ => ?_
 rw [gJ]
 unfold fO
 rw [cM,List.range_succ,List.filter_append]
 congr 2
 simp only [List.filter_cons,List.filter_nil]
theorem fW (l:List Nat):(natI l).length=l.length:=by simp [natI]
theorem zX {l:List Nat} (h:∀ b ∈ l,b <= 1000000):∀ x ∈ natI l,In64 x:=by
 intro x hx
 obtain ⟨b,hb,rfl⟩:=aY.1 hx
 have:=h b hb
 exact ⟨by omega,by omega⟩
theorem uU {f:FuncD} {i k:Nat} (hi:i <= 1000):∀ xs ∈ jV f i k,xs.length <= 17592186044416 /\ ∀ x ∈ xs,In64 x:=by
 intro xs hx
 obtain ⟨t,_,rfl⟩:=aY.1 hx
 have:=nX f i k t
 exact ⟨by rw [fW];omega,zX fun b hb=>by have:=aB4 hb;omega⟩
theorem mT {l:List Int} (h:∀ x ∈ l,0 <= x) (t:Nat):l.contains (t:Int)=(l.map Int.toNat).contains t:=by
 rw [cC,dX,dX,aY]
 constructor
 ·intro hm;exact ⟨_,hm,rfl⟩
 rintro ⟨x,hx,rfl⟩
 have:=h x hx
 rwa [Int.toNat_of_nonneg this]
theorem oK {W:World} {b:Nat} {x:Int} (h:Box W b #[.int .i64 x]) (hx:In64 x):Ints W (.slice (some ⟨b,0,none⟩) 1 1) [x] :=
 ⟨Row.of_box (n:=1) (size:=1) h rfl (by omega),by simpa using hx⟩
theorem uV:(Tryz.prog.info? 22).map (fun i=>(i.zero,i.size,i.bytes))=some (some (.slice none 0 0),1,24):=by kernel_rfl
theorem qO:(Tryz.prog.info? 4).map (fun i=>(i.zero,i.size,i.bytes))=some (some (.bool false),1,1):=by kernel_rfl
theorem lT (n:Nat):madeCells #[Value.bool false] n=fX (List.replicate n false):=by
 unfold fX;rw [List.map_replicate, <-toList_madeCells_one]
end
section
open Go.RowKit
def gX (n:Nat) (O:List Nat) (i:Nat):List Int:=(List.range n).map fun b=>if b ∈ O.take i then ((O.idxOf b:Nat):Int) else -1
theorem fL (n:Nat) (O:List Nat) (i:Nat):(gX n O i).length=n:=by simp [gX]
theorem rQ (n:Nat) (O:List Nat):gX n O 0=List.replicate n (-1):=by
 apply bN
 intro t
 by_cases h:t < n <;> simp [gX,h]
theorem nY {O:List Nat} {i b:Nat} (hnd:O.Nodup) (h:O[i]? = some b):O.idxOf b=i:=by
 obtain ⟨hi,rfl⟩:=aE.1 h
 exact hnd.idxOf_getElem i hi
theorem xC {n:Nat} {O:List Nat} {i b:Nat} (hnd:O.Nodup) (h:O[i]? = some b) (hb:b < n):(gX n O i).set b (i:Int)=gX n O (i+1):=by
 apply bN
 intro t
 rw [cP,fL]
 by_cases ht:t < n
 ·have h1:∀ k,(gX n O k)[t]? = some (if t ∈ O.take k then ((O.idxOf t:Nat):Int) else -1):=fun k=>by simp [gX,ht]
  rw [h1,h1]
  have h2:t ∈ O.take (i+1) ↔ t ∈ O.take i \/ t=b:=by rw [eP _ _ _ h,aO,cZ]
  by_cases e:b=t
  ·subst e
   rw [if_pos rfl,if_pos hb,if_pos (h2.2 (.inr rfl)),nY hnd h]
  rw [if_neg e]
  have h3:t ∈ O.take (i+1) ↔ t ∈ O.take i:=by rw [h2];exact or_iff_left (Ne.symm e)
  simp only [h3]
 rw [aW (by rw [fL];omega),aW (by rw [fL];omega)]
 split <;> simp_all
theorem zY {n:Nat} {O:List Nat} (i:Nat) (h:O.length <= 1000):∀ x ∈ gX n O i,In64 x:=by
 intro x hx
 obtain ⟨b,_,rfl⟩:=aY.1 hx
 have:=List.idxOf_le_length (a:=b) (l:=O)
 split
 ·exact ⟨by omega,by omega⟩
 exact ⟨by omega,by omega⟩
def gL (f:FuncD) (O:List Nat):Prop := ∃ s',Steps (toB f) [0] (List.replicate f.blocks.length false) [] s' O.reverse
def mU (f:FuncD) (v:Value) (w0 W:World) (bg:Nat) (O:List Nat):Prop :=
 ∃ (a0 a1 a2 a3 pv ov lv:Value),v = .agg #[a0,a1,a2,a3]/\Box W bg #[a0,a1,a2,a3,pv,ov,lv]/\w0.heap.size <= bg/\kR W pv (gB f)/\Ints W ov (natI O)/\Ints W lv (gX f.blocks.length O O.length)
def NewR (f:FuncD) (v:Value) (w:World) (e:Ending) (w' : World):Prop := ∃ bg O,e = .returned (.pointer (some ⟨bg,0,none⟩))/\gL f O/\mU f v w w' bg O/\Below w.heap.size w w'
theorem gL.le {f:FuncD} {O:List Nat} (h:gL f O):O.length <= f.blocks.length:=by
 obtain ⟨s',hs⟩:=h
 have h1:=hs.total
 simp at h1
 omega
structure Cells (W:World) (v:Value) (g:Nat) (xs:List Int):Prop where
 is:∃ (cap:Nat) (A:Array Value),v = .slice (some ⟨g,0,none⟩) xs.length cap/\xs.length <= cap/\cap <= maxLen/\Box W g A /\ ∀ (j:Nat) (x:Int),xs[j]? = some x -> A[j]? = some (.int .i64 x)
theorem Cells.ints {W:World} {v:Value} {g:Nat} {xs:List Int} (h:Cells W v g xs) (hn:xs.length <= 17592186044416) (h64:∀ x ∈ xs,In64 x):Ints W v xs:=by
 obtain ⟨cap,A,rfl,h1,h2,h3,h4⟩:=h.is
 refine ⟨⟨by simp,hn,_,cap,rfl,h1,h2,by simp,fun ad ha j u hj => ?_⟩,h64⟩
 cases ha
 rw [sY,bH,h3.cell]
 rw [aU] at hj
 obtain ⟨x,hx,rfl⟩:=Option.map_eq_some_iff.1 hj
 exact h4 j x hx
theorem Cells.later {W W' : World} {v:Value} {g:Nat} {xs:List Int} (h:Cells W v g xs) (hb:Below W.heap.size W W'):Cells W' v g xs:=by
 obtain ⟨cap,A,e,h1,h2,h3,h4⟩:=h.is
 exact ⟨cap,A,e,h1,h2,h3.later hb,h4⟩
theorem Cells.other {W:World} {v:Value} {g:Nat} {xs:List Int} (h:Cells W v g xs) {p:Addr} (u:Value) (hp:g ≠ p.block):Cells (W.setCell p u) v g xs:=by
 obtain ⟨cap,A,e,h1,h2,h3,h4⟩:=h.is
 exact ⟨cap,A,e,h1,h2,h3.other u hp,h4⟩
theorem Cells.turn {W W' : World} {v:Value} {g:Nat} {xs:List Int} {bs:List Nat} (h:Cells W v g xs) (ht:Turn bs W W') (hp:g ∉ bs):Cells W' v g xs:=by
 obtain ⟨cap,A,e,h1,h2,h3,h4⟩:=h.is
 exact ⟨cap,A,e,h1,h2,h3.turn ht hp,h4⟩
theorem Cells.lt {W:World} {v:Value} {g:Nat} {xs:List Int} (h:Cells W v g xs):g < W.heap.size:=by
 obtain ⟨cap,A,e,h1,h2,h3,h4⟩:=h.is
 exact h3.lt
theorem Cells.set {W:World} {v:Value} {g:Nat} {xs:List Int} (h:Cells W v g xs) {j:Nat} {x:Int} (hj:j < xs.length):Cells (W.setCell ⟨g,j,none⟩ (.int .i64 x)) v g (xs.set j x):=by
 obtain ⟨cap,A,e,h1,h2,h3,h4⟩:=h.is
 refine ⟨cap,A.setIfInBounds j (.int .i64 x),by rw [bY];exact e,by rw [bY];exact h1,h2,h3.set j _,fun i y hi => ?_⟩
 have hA:j < A.size:=by
  have:=h4 j _ (aB hj)
  exact (aS.1 this).1
 rw [cP] at hi
 rw [Array.getElem?_setIfInBounds]
 by_cases e2:j=i
 ·subst e2
  simp only [if_true,hj,hA] at hi ⊢
  cases hi;rfl
 rw [if_neg e2] at hi ⊢
 exact h4 i y hi
theorem New.cells {T:TypeId} {w w' : World} {u:Value} {xs:List Int} (h:New T w w' u xs) (hn:0 < xs.length):∃ g,Cells w' u g xs/\w.heap.size <= g:=by
 rcases h.own.2 with ⟨rfl,h0⟩ | ⟨g,cap,cur,rfl,hb,hh,h1,h2,h3,h4⟩
 ·omega
 refine ⟨g,⟨cap,cur,rfl,h1,h2,⟨(aS.1 hh).1,fun o=>by simp [World.cell?,hh],fun o=>by simp [World.frozen?,hh]⟩,fun j x hj => ?_⟩,hb⟩
 have hjl:j < xs.length:=(aE.1 hj).1
 rw [<-Array.getElem?_toList]
 have:=congrArg (fun l=>l[j]?) h4
 simp only [eF,aU,hj,cS] at this
 rw [bE,if_pos hjl] at this
 exact this
theorem Cells.form {W:World} {v:Value} {g:Nat} {xs:List Int} (h:Cells W v g xs):∃ cap,v = .slice (some ⟨g,0,none⟩) xs.length cap/\xs.length <= cap/\cap <= 9223372036854775807/\(∀ (j:Nat) (x:Int),xs[j]? = some x -> W.cell? ⟨g,j,none⟩=some (.int .i64 x)) /\ ∀ j:Nat,W.frozen? ⟨g,j,none⟩=false:=by
 obtain ⟨cap,A,e,h1,h2,h3,h4⟩:=h.is
 refine ⟨cap,e,h1,by unfold maxLen at h2;omega,fun j x hj=>h3.at j (h4 j x hj),h3.free⟩
structure GrB (w0:World) (nb:Nat) (a0 a1 a2 a3 u:Value) (W:World):Prop where
 ex:∃ bp g cap,u = .agg #[a0,a1,a2,a3,.slice (some ⟨bp,0,none⟩) nb nb,.slice none 0 0,.slice (some ⟨g,0,none⟩) nb cap]/\Box W bp (madeCells #[.slice none 0 0] nb)/\w0.heap.size <= bp/\Cells W (.slice (some ⟨g,0,none⟩) nb cap) g (List.replicate nb (-1))/\w0.heap.size <= g/\bp ≠ g
structure GrP (w0:World) (nb:Nat) (a0 a1 a2 a3 u:Value) (W:World):Prop where
 ex:∃ bg bp g cap,u = .pointer (some ⟨bg,0,none⟩)/\Box W bg #[a0,a1,a2,a3,.slice (some ⟨bp,0,none⟩) nb nb,.slice none 0 0,.slice (some ⟨g,0,none⟩) nb cap]/\Box W bp (madeCells #[.slice none 0 0] nb)/\w0.heap.size <= bp/\Cells W (.slice (some ⟨g,0,none⟩) nb cap) g (List.replicate nb (-1))/\w0.heap.size <= g/\bp ≠ g/\bp < bg/\g < bg
theorem GrB.later {w0:World} {nb:Nat} {a0 a1 a2 a3 u:Value} {W W' : World} (h:GrB w0 nb a0 a1 a2 a3 u W) (hb:Below W.heap.size W W'):GrB w0 nb a0 a1 a2 a3 u W':=by
 obtain ⟨bp,g,cap,e,h1,h2,h3,h4⟩:=h.ex
 exact ⟨bp,g,cap,e,h1.later hb,h2,h3.later hb,h4⟩
theorem GrP.later {w0:World} {nb:Nat} {a0 a1 a2 a3 u:Value} {W W' : World} (h:GrP w0 nb a0 a1 a2 a3 u W) (hb:Below W.heap.size W W'):GrP w0 nb a0 a1 a2 a3 u W':=by
 obtain ⟨bg,bp,g,cap,e,h0,h1,h2,h3,h4⟩:=h.ex
 exact ⟨bg,bp,g,cap,e,h0.later hb,h1.later hb,h2,h3.later hb,h4⟩
theorem tK {W:World} {bp g n:Nat} {v:Value} {xs:List Int} (hB:Box W bp (madeCells #[.slice none 0 0] n)) (hC:Cells W v g xs) (hn:0 < n) (hx:0 < xs.length):bp ≠ g:=by
 intro e
 subst e
 obtain ⟨cap,A,e1,h1,h2,h3,h4⟩:=hC.is
 have h5:=h3.at 0 (h4 0 _ (aB hx))
 have h6:madeCells #[Value.slice none 0 0] n=(List.replicate n (Value.slice none 0 0)).toArray:=by rw [<-toList_madeCells_one]
 have h7:=hB.at 0 (v:=.slice none 0 0) (by rw [h6];simp [hn])
 rw [h5] at h7
 cases h7
theorem gL.facts {f:FuncD} {O:List Nat} (h:gL f O):O.Nodup/\(∀ b,b ∈ O ↔ Way (toB f) (-1) b)/\(∀ b ∈ O,b < f.blocks.length)/\O[0]? = some 0 /\ ∀ (i b:Nat),O[i]? = some b -> b ≠ 0 -> ∃ (j p:Nat),j < i/\O[j]? = some p/\b ∈ toB f p:=by
 obtain ⟨s',hs⟩:=h
 obtain ⟨h1,h2,h3,h4,h5⟩:=hs.way
 have hl:=hs.len
 rw [aV] at hl
 refine ⟨by rw [<-List.reverse_reverse O];exact List.pairwise_reverse.2 (h3.imp fun h=>Ne.symm h),fun b=>by rw [<-h2,List.mem_reverse],fun b hb => ?_, ?_,fun i b hb hb0 => ?_⟩
 ·have h6:=(h1 b).2 ((h2 b).1 (List.mem_reverse.2 hb))
  rw [<-hl];exact (aE.1 h6).1
 ·rw [List.getLast?_reverse] at h5
  rw [<-List.head?_eq_getElem?];exact h5
 have hi:i < O.length:=(aE.1 hb).1
 have h6:O.reverse[O.length - 1 - i]? = some b:=by
  rw [List.getElem?_reverse (by omega),show O.length - 1 - (O.length - 1 - i)=i by omega];exact hb
 rcases h4 _ b h6 with h7 | ⟨j,p,h7,h8,h9⟩
 ·exact absurd h7 hb0
 have hj:j < O.length:=by have:=(aE.1 h8).1;rwa [List.length_reverse] at this
 rw [List.getElem?_reverse hj] at h8
 exact ⟨O.length - 1 - j,p,by omega,h8,h9⟩
theorem Cells.alloc {W:World} {v:Value} {g:Nat} {xs:List Int} (h:Cells W v g xs) (o:Obj):Cells (W.alloc o) v g xs:=h.later ((Below.refl _ _).alloc (aF _) o)
theorem Box.ne {W:World} {a b:Nat} {A B:Array Value} (hA:Box W a A) (hB:Box W b B) (o:Nat) (h:A[o]? ≠ B[o]?):a ≠ b:=by
 intro e
 subst e
 exact h ((hA.cell o).symm.trans (hB.cell o))
theorem aEK {z:Value} {n:Nat} (h:0 < n):(madeCells #[z] n)[0]? = some z:=by
 have h6:madeCells #[z] n=(List.replicate n z).toArray:=by rw [<-toList_madeCells_one]
 rw [h6];simp [h]
theorem Cells.ne {W:World} {v:Value} {g b:Nat} {xs:List Int} {A:Array Value} (h:Cells W v g xs) (hB:Box W b A) (hx:0 < xs.length) {u:Value} (hu:A[0]? = some u) (hn:∀ x:Int,u ≠ .int .i64 x):g ≠ b:=by
 intro e
 subst e
 obtain ⟨cap,A',e1,h1,h2,h3,h4⟩:=h.is
 have h5:=h3.at 0 (h4 0 _ (aB hx))
 have h6:=hB.at 0 hu
 rw [h5] at h6
 cases h6
 exact hn _ rfl
end
end Go.Proofs.YtcmflfkpeodicaaGreat
