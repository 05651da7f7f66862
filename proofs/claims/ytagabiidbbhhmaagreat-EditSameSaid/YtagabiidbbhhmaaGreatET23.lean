/- Part 23. -/
import Derived.Deep.OwnRows
import Derived.Shelf.Slices.Reverse
import Derived.Sort.OwnSortedInts
import Derived.Test.YtagabiidbbhhmaaGreatET20
import Derived.Test.YtagabiidbbhhmaaGreatET22
namespace Go.Proofs.YtagabiidbbhhmaaGreat
set_option maxHeartbeats 6400000
set_option linter.all false
set_option maxRecDepth 100000
section
open Go.RowKit
theorem Kept.more{bs bs':List Nat}{v v':Value}{a b:World}(h:Kept bs v v' a b)(hb:∀x∈bs,x∈bs'):Kept bs' v v' a b:=⟨h.os,h.tape,h.output,h.size,fun k hk hn=>h.block k hk fun hm=>hn (hb k hm),h.own⟩
theorem xO{P:Program}{w:World}{ops:Array Oper}{rest:List Oper}{o:Oper}{a:Act}{Q:Exit->Act->World->Prop}(hgd:o.guard=none)(s x:Operand)(t e:TypeId)
  (ho:o.op=.call { callee:=.builtin .append,args:=#[s,x],argTypes:=#[t,t] }) {z:Value} {size bytes:Nat} (he:Elem P t e z size bytes) {base:Nat} {bs:List Nat}
  {v xv:Value} {n m:Nat} {cs news:List Value} (hs:a.eval s=v) (hx:a.eval x=xv) (HO:Own w base bs e size v n cs) (hr:Row w xv m size news)
  (h1:∀u∈news,u.oneCell'=true) (h63:n+m<=maxLen) (hbytes:(n+m)*bytes<=140737488355328) (hbase:base<=w.heap.size) (hbs:∀b∈bs,b<w.heap.size)
  (h:∀v' w',Own w' base bs e size v' (n+m) (cs++news)->Kept [] v v' w w'->wpList P ops Q rest (a.put o.dst v') w'):wpList P ops Q (o :: rest) a w:=by
 refine mL hgd s x t e ho he base hs hx HO.row hr h1 h63 hbytes hbase fun v' w' r1 r2 r3=>h v' w' ⟨r1,fun g hg hm=> ?_⟩ ⟨r2.os,r2.tape,r2.output,r2.size,fun k hk _ hn=>r2.block k hk (fun e=>hn e.symm),fun k hk=> ?_⟩
 ·rcases r3 with e3|e3
  ·rw[e3]at hg;exact HO.free g hg hm
  rw[e3]at hg;cases hg;exact absurd (hbs _ hm) (by omega)
 ·rcases r3 with e3|e3
  ·rw[e3]at hk;exact .inl hk
  rw[e3]at hk;cases hk;exact .inr (aC _)
theorem aG7{P:Program}{w:World}{o:Oper}{a:Act}(s x:Operand)(t e:TypeId)
  (ho:o.op=.call { callee:=.builtin .append,args:=#[s,x],argTypes:=#[t,t] }) {z:Value} {size bytes:Nat} (he:Elem P t e z size bytes) {base:Nat} {bs:List Nat}
  {v xv:Value} {n m:Nat} {cs news:List Value} (hs:a.eval s=v) (hx:a.eval x=xv) (HO:Own w base bs e size v n cs) (hr:Row w xv m size news)
  (h1:∀u∈news,u.oneCell'=true) (h63:n+m<=maxLen) (hbytes:(n+m)*bytes<=140737488355328) (hbase:base<=w.heap.size) (hbs:∀b∈bs,b<w.heap.size):
  ∃v' w',(execOp a.eval o).run P w=.ok (.value v') w'/\Own w' base bs e size v' (n+m) (cs++news)/\Kept [] v v' w w':=by
 obtain⟨v',w',aa,r1,r2,r3,-,-⟩:=kS (P:=P) (ty:=o.type) he base HO.row hr h1 h63 hbytes hbase;refine⟨v',w', ?_,⟨r1,fun g hg hm=> ?_⟩,⟨r2.os,r2.tape,r2.output,r2.size,fun k hk _ hn=>r2.block k hk (fun e=>hn e.symm),fun k hk=> ?_⟩⟩
 ·unfold execOp;simp only[ho,resolve,invoke,builtin,Sem.run_bind,Sem.run_pure,Result.andThen_ok,List.map_toArray,cI,fD,hs,hx,aa]
 ·rcases r3 with e3|e3
  ·rw[e3]at hg;exact HO.free g hg hm
  rw[e3]at hg;cases hg;exact absurd (hbs _ hm) (by omega)
 ·rcases r3 with e3|e3
  ·rw[e3]at hk;exact .inl hk
  rw[e3]at hk;cases hk;exact .inr (aC _)
theorem Kept.turns{v v':Value}{X:List Nat}{a b:World}(h:Kept [] v v' a b)(hX:∀k,v.ownBlock=some k->k∈X):Turn X a b:=
 ⟨h.os,h.tape,h.output,h.size,fun k hk hn=>h.block k hk (by simp) fun e=>hn (hX k e)⟩
def AppS(w0:World)(base:Nat)(bs:List Nat)(e:TypeId)(size:Nat)(v:Value)(n:Nat)(cs:List Value)(u:Value)(w:World):Prop:=
 Own w base bs e size u n cs/\∀k,u.ownBlock=some k->v.ownBlock=some k\/w0.heap.size<=k
theorem AppS.later{w0:World}{base:Nat}{bs:List Nat}{e:TypeId}{size:Nat}{v:Value}{n:Nat}{cs:List Value}{u:Value}{w1 w2:World}(h:AppS w0 base bs e size v n cs u w1)(hb:Below w1.heap.size w1 w2):AppS w0 base bs e size v n cs u w2:=⟨h.1.later hb,h.2⟩
theorem tF{P:Program}{w0 w:World}{o:Oper}{a:Act}{XF:Nat->Foot}{k:Nat}(s x:Operand)(t e:TypeId)
  (ho:o.op=.call { callee:=.builtin .append,args:=#[s,x],argTypes:=#[t,t] }) {z:Value} {size bytes:Nat} (he:Elem P t e z size bytes) {base:Nat} {bs:List Nat}
  {v xv:Value} {n m:Nat} {cs news:List Value} (hs:a.eval s=v) (hx:a.eval x=xv) (HO:Own w base bs e size v n cs) (hr:Row w xv m size news)
  (h1:∀u∈news,u.oneCell'=true) (h63:n+m<=maxLen) (hbytes:(n+m)*bytes<=140737488355328) (hbase:base<=w.heap.size) (hbs:∀b∈bs,b<w.heap.size) (hw:w0.heap.size<=w.heap.size)
  (hX:∀q,v.ownBlock=some q->XF k q):
  ∃u w'',(execOp a.eval o).run P w=.ok (.value u) w''/\(Known.holds fun u w'=>AppS w0 base bs e size v (n+m) (cs++news) u w').spec u w''/\Four.Step XF (fun _=>True) k w w'':=by
 obtain⟨v',w',r1,r2,r3⟩:=aG7 (P:=P) (w:=w) s x t e ho he hs hx HO hr h1 h63 hbytes hbase hbs;exact⟨v',w',r1,⟨r2,fun k hk=>(r3.own k hk).imp id (fun h=>aT hw h)⟩,⟨r3.os,r3.tape,r3.output,r3.size,fun q hq hn=>r3.block q hq (by simp) (fun h=>hn (hX q h))⟩,fun h=>h⟩
theorem zA(k:Nat)(S:Foot):∃XF:Nat->Foot,(∀q,XF k q↔S q)/\∀i q,XF i q->i=k:=
 ⟨fun i=>if i=k then S else Foot.none,fun q=>by simp,fun i q h=>by
  by_cases e:i=k
  ·exact e
  simp only[if_neg e]at h;exact h.elim⟩
theorem VisI.push{N:VisN}{base nb:Nat}{f0 f1 f2 f3 pv lv:Value}{W w2:World}{s:List Bool}{d:List Nat}{ov v2:Value}{b:Nat}(h:VisI N base nb #[f0,f1,f2,f3] pv lv W s d ov)
  (hO:Own w2 base N.list 3 1 v2 (d.length+1) ((d.map fun x:Nat=>Value.int .i64 x)++[.int .i64 b])) (hK:Kept [] ov v2 W w2):
  VisI N base nb #[f0,f1,f2,f3] pv lv (w2.setCell ⟨N.bg,5,none⟩ v2) s (d++[b]) v2:=by
 have hn:=h.nodup;unfold VisN.list at hn;simp only[eH,bZ,eM,or_false,not_or]at hn;obtain⟨⟨n1,n2,n3,n4,n5⟩,⟨n6,n7,n8,n9⟩,⟨n10,n11,aa⟩,⟨n13,ac⟩,ab,_⟩:=hn;have fr:∀x∈N.list,ov.ownBlock≠some x:=fun x hx e=>h.own.free x e hx;refine⟨(h.begun.kept hK (by simp) (fr _ (by simp[VisN.list]))).other _ n5,(h.flags.kept hK (by simp) (fr _ (by simp[VisN.list]))).other _ n9,(h.fbox.kept hK (by simp) (fr _ (by simp[VisN.list]))).other _ aa,
  (h.vis.kept hK (by simp) (fr _ (by simp[VisN.list]))).other _ ac,(h.gvar.kept hK (by simp) (fr _ (by simp[VisN.list]))).other _ ab, ?_, ?_,h.len,h.nodup⟩
 ·have:=(h.graph.kept hK (by simp) (fr _ (by simp[VisN.list]))).set 5 v2;simpa using this
 ·have:=hO.other v2 (p:=⟨N.bg,5,none⟩) (by simp[VisN.list]);rw[aO,bG];exact this
theorem Kept.later{bs:List Nat}{v v':Value}{a b c:World}(h:Kept bs v v' a b)(hb:Below b.heap.size b c):Kept bs v v' a c:=h.trans (Kept.of_below hb)
theorem VisI.lt{N:VisN}{base nb:Nat}{fa:Array Value}{pv lv:Value}{W:World}{s:List Bool}{d:List Nat}{ov:Value}(h:VisI N base nb fa pv lv W s d ov){y:Nat}(hy:y∈N.list):y<W.heap.size:=by
 simp only[VisN.list,bZ,eM,or_false]at hy;rcases hy with rfl|rfl|rfl|rfl|rfl|rfl
 ·exact h.begun.lt
 ·exact h.flags.lt
 ·exact h.fbox.lt
 ·exact h.vis.lt
 ·exact h.gvar.lt
 exact h.graph.lt
theorem vU:Enters Tryz.prog 128:=enters_of Tryz.func128 (by kernel_rfl) rfl
def VisR(f:FuncD)(N:VisN)(base nb:Nat)(fa:Array Value)(pv lv:Value)(w0 W:World)(s:List Bool)(d:List Nat)(ov:Value)(b:Nat)(e:Ending)(W':World):Prop:=
 e=.returned (.tuple #[])/\∃s' d' ov',Steps (toB f) (toB f b) (s.set b true) d s' d'/\VisI N base nb fa pv lv W' s' (d'++[b]) ov'/\Kept [N.B,N.bg] ov ov' W W'/\Below w0.heap.size w0 W'
theorem aG8{w:World}{f:FuncD}{ap:Option Addr}{np cp:Nat}{ar ce:Int}{nb cb b0 bo:Nat}(hnb:nb=f.blocks.length)(hcb:nb<=cb)(hcm:cb<=9223372036854775807)(hb0:b0<w.heap.size)(h512:nb<=512)
  (hbx:∀(j:Nat) (x:BlockD),f.blocks[j]? =some x->∃api aii ati cpi cii cti,BlockC w b0 (bo+j*6) x api aii ati cpi cii cti)
  (hto:∀(j:Nat) (x:BlockD),f.blocks[j]? =some x->∀t∈x.term.to,1<=t/\t<(nb:Int)) {N:VisN} (hbase:∀b∈N.list,w.heap.size<=b) {pv lv:Value}:
  ∀(m:Nat) (W:World) (s:List Bool) (d:List Nat) (ov:Value) (b:Nat),s.count false<=m->d.length+s.count false<=1024->VisI N w.heap.size nb #[.slice ap np cp,.int .i64 ar,.int .i64 ce,.slice (some ⟨b0,bo,none⟩) nb cb] pv lv W s d ov->Below w.heap.size w W->s[b]? =some false->
   Calls Tryz.prog 128 #[.int .i64 b,.pointer (some ⟨N.bb,0,none⟩),.pointer (some ⟨N.fb,0,none⟩),.pointer (some ⟨N.vb,0,none⟩),.pointer (some ⟨N.gb,0,none⟩)] W
    (VisR f N w.heap.size nb #[.slice ap np cp,.int .i64 ar,.int .i64 ce,.slice (some ⟨b0,bo,none⟩) nb cb] pv lv w W s d ov b):=by
 intro m;induction m with
 | zero=>
  intro W s d ov b hm _ _ _ hs
  exfalso
  have:=count_set hs
  omega
 | succ m ih=>
  intro W s d ov b hm hd ac hW hs
  have ck:=h! ih
  have HNB:=h! hnb
  have cw:=h! hbx
  have cL:=h! hto
  have aa:=h! hbase
  have cd:=count_set hs
  have hbl:b<nb:=by have:=(aD.1 hs).1;rw[ac.len]at this;exact this
  obtain⟨x,hx⟩:∃x,f.blocks[b]? =some x:=⟨_,aA (by omega)⟩
  have HX:=h! hx
  obtain⟨api,aii,ati,cpi,cii,cti,hC⟩:=hbx b x hx
  have HTL:=h! hC.to
  obtain⟨ta,tc,bv,cm,cM,dg,aw,bO,cr⟩:=hC.to.parts
  cases cM
  have da:=h! bO
  have cv:=h! cr
  obtain⟨tl,bp⟩:∃tl,tl=x.term.to.length:=⟨_,rfl⟩
  have ao:=h! bp
  obtain⟨k0,k1,k2,k3,k4,k5,q1,q2,q3,q4,q5,q6⟩:=hC.below hW hb0
  clear q1 q2 q3 q4 q5 q6 k0 k1 k2 k3 k5
  rw[<-bp]at k4 dg
  have co:=h! k4
  have HV:=h! ac
  have HW:=h! hW
  have HS:=h! hs
  have HD:=h! hd
  have bz:=h! cd
  have HM:=h! hm
  have b1:=ac.begun
  have b2:=ac.flags
  obtain⟨l1,c1,f1⟩:=b1
  obtain⟨l2,c2,f2⟩:=b2
  have ca:(iJ s)[b]? =some (.bool false):=lZ hs
  clear ac hW hs hd cd hm hx hC bp k4 bO cr hnb hbx hto hbase ih
  go_enter Tryz.func128,Tryz.ntmps128
  go_upto_region 1 with(fail)
  clear l1 c1 f1 l2 c2 f2 ca
  have cl:=HV.flag b true
  have bl:Kept [N.B,N.bg] ov ov W (W.setCell ⟨N.B,b,none⟩ (.bool true)):=Kept.set W _ (by simp)
  have bf:=bl.below HW.out (by intro y hy;exact aa y (by simp at hy;rcases hy with rfl|rfl<;>simp[VisN.list])) (fun k hk=>(HV.own.lt hk).2)
  have cg:=(bf.cell (p:=⟨b0,bo+b*6+4,none⟩) hb0)
  have bi:=h! cl
  have cf:=h! bl
  have ci:=h! bf
  generalize W.setCell ⟨N.B,b,none⟩ (.bool true)=W1 at*
  clear cl bl bf
  rw[<-(HW.cell (p:=⟨b0,bo+b*6+4,none⟩) hb0),co.out]at cg
  obtain⟨l3,c3,f3⟩:=bi.fbox
  go_upto_region 2 with(fail)
  clear l3 c3 f3 cg co
  go_loopw [19] (fun i wr=>∃(k:Nat) (s':List Bool) (d':List Nat) (ov':Value),k<=tl/\i=.int .i64 k/\Steps (toB f) ((toB f b).take k) (s.set b true) d s' d'/\VisI N w.heap.size nb #[.slice ap np cp,.int .i64 ar,.int .i64 ce,.slice (some ⟨b0,bo,none⟩) nb cb] pv lv wr s' d' ov'/\Kept [N.B,N.bg] ov ov' W wr/\Below w.heap.size w wr ) (fun i _=>tl - (intOf i).toNat)
  case atStart=>exact⟨0,_,_,ov,aL _,rfl,Steps.nil _ _,bi.out,cf.out,ci.out⟩
  obtain⟨k,s',d',ov',hk,rfl,bk,hV,hK,cn⟩:=hrel
  have aj:=h! bk
  replace HV:=h! hV
  have HK:=h! hK
  have ag:=h! cn
  have bw:Hid (d'.length+s'.count false+1<=1024):=h! (by have h1:=bk.total;have h2:=bz.out;have h3:=HD.out;omega)
  clear bk hV hK cn bi cf ci
  generalize wr=W2 at*
  by_cases hlt:k<tl
  ·obtain⟨rfl,cF⟩:=da.out (by have:=ao.out;omega)
   obtain⟨t,ht⟩:∃t,t=x.term.to.getD k 0:=⟨_,rfl⟩
   have aw:x.term.to[k]? =some t:=by rw[ht];exact gF _ _ (by have:=ao.out;omega)
   have cx:=cL.out b x HX.out t (aG aw)
   obtain⟨tn,rfl⟩:∃tn:Nat,t=(tn:Int):=⟨t.toNat,by omega⟩
   have dc:tn<nb:=by omega
   have hct:W2.cell? ⟨bv,cm+k,none⟩=some (.int .i64 tn):=by rw[ag.cell (p:=⟨bv,cm+k,none⟩) cF,cv k (by have:=ao.out;omega),<-ht]
   have ct:Hid ((toB f b).take (k+1)=(toB f b).take k++[tn]):=h! (by rw[sD HX.out];exact fR _ k tn (by rw[aM,aw];simp))
   obtain⟨l1,c1,f1⟩:=HV.begun
   obtain⟨l2,c2,f2⟩:=HV.flags
   obtain⟨sb,az⟩:∃sb,s'[tn]? =some sb:=⟨_,aA (by rw[HV.len];exact dc)⟩
   have ca:=lZ az
   have ax:=h! az
   clear ht aw cx az
   cases sb
   ·obtain⟨l4,c4,f4⟩:=HV.vis
    have HC0:=h! (ck W2 s' d' ov' tn (by have:=aj.count;have:=bz.out;have:=HM.out;omega) (by have:=bw.out;omega) HV.out ag.out ax.out)
    have eg1:∀(args:Array Value) (w:World),(callFunc 128 args).run Tryz.prog w=.ok (.enter 128 args) w:=vU
    go_wp2_with (go_at_fn 128;refine HC0.mono ?_;rintro e W3 ⟨rfl,s3,d3,ov3,hs3,hv3,hk3,hw3⟩;have HS3:=h! hs3;have br:=h! hv3;have bh:=h! hk3;have bq:=h! hw3;clear hs3 hv3 hk3 hw3)
    go_roundw
    case rel=>
     exact⟨k+1,s3,d3++[tn],ov3,hlt,by go_num,by rw[ct.out];exact aj.append (.go ax.out HS3.out (.nil _ _)),br.out,HK.trans bh.out,bq.out⟩
    simp[intOf];omega
   go_wp2
   go_roundw
   case rel=>exact⟨k+1,s',d',ov',hlt,by go_num,by rw[ct.out];exact aj.append (.skip ax.out (.nil _ _)),HV.out,HK.out,ag.out⟩
   simp[intOf];omega
  obtain rfl:k=tl:=by omega
  rw[aI (by rw[sD HX.out,aZ];exact Nat.le_of_eq ao.symm)]at aj
  obtain⟨oa,oc,rfl⟩:=HV.own.form
  have GB:=h! HV.gvar
  have BG:Hid (Box W2 N.bg #[.slice ap np cp,.int .i64 ar,.int .i64 ce,.slice (some ⟨b0,bo,none⟩) nb cb,pv,.slice oa d'.length oc,lv]):=h! (by simpa using HV.graph)
  have HBS:Hid (∀y∈N.list,w.heap.size<=y):=aa
  replace HW:=ag
  clear ag cw ck
  obtain⟨ba,ch,cc⟩:=GB.out
  obtain⟨bm,cs,cq⟩:=BG.out
  go_upto_region 7 with(fail)
  have hdr:=bw.out
  obtain⟨XF,cj,bx⟩:=zA 7 (fun q=>(Value.slice oa d'.length oc).ownBlock=some q)
  have HX:=h! (And.intro cj bx)
  have aq:Hid (∀q,Four.All XF q->(Value.slice oa d'.length oc).ownBlock=some q):=h! (fun q ⟨i,h⟩=>by obtain rfl:=HX.2 i q h;exact(HX.1 q).1 h)
  have xW:∀i q,XF i q->q<W2.heap.size:=fun i q h=>(HV.own.lt (aq q ⟨i,h⟩)).1
  have xI:∀w w':World,True->Below w.heap.size w w'->True:=fun _ _ _ _=>trivial
  have de:True:=trivial
  have af:∀q,q<W2.heap.size->Four.All XF q->w.heap.size<=q:=fun q _ h=>(HV.own.lt (aq q h)).2
  have ad:∀y∈N.list,¬Four.All XF y:=fun y hy h=>HV.own.free _ (aq y h) hy
  have bt:¬Four.All XF N.gb:=ad _ (by simp[VisN.list])
  have ay:¬Four.All XF N.bg:=ad _ (by simp[VisN.list])
  clear cj bx ad
  refine Four.wp_region_grow (XF:=XF) (I:=(fun _=>True)) 8 (fun ν kz=>match kz with|6=>.made W2.heap.size (fun b=>.slice (some ⟨b,0,none⟩) 1 1) #[.int .i64 b]|7=>.holds (fun u w'=>AppS W2 w.heap.size N.list 3 1 (.slice oa d'.length oc) (d'.length+1) ((d'.map fun x:Nat=>Value.int .i64 x)++[.int .i64 b]) u w')|_=>.plain) (by kernel_rfl) (by kernel_rfl) ?_ ?_ xW xI de ?_ (fun ν=> ?_)
  ·(intro ν k;(try dsimp only);split<;>first|exact True.intro|(intro u w1 w2 hu hb;exact hu.later (hb.below (Nat.le_refl _) (fun q _ ⟨j,hj,h⟩=>absurd (HX.2 j q h) hj))))
  ·(intro ν ν' k h;first|rfl|((try dsimp only);split<;>first|rfl))
  ·(intro ν j B mk A h;(try dsimp only at h);split at h<;>first|(cases h;exact Nat.le_refl _)|cases h)
  simp only[aP,aU,aR,aV]
  iterate 6 (refine Four.Grow.val (v:= ?_) rfl rfl (fun wg hbg hdg=> ?_) ?_;rotate_left;(focus((obtain⟨df,db,dh⟩:=GB.off hbg.off bt);(obtain⟨cz,cG,cy⟩:=BG.off hbg.off ay);clear hbg hdg;first|(go_simp;done)|(go_simp;with_reducible rfl)));simp only[Act.put,aB,aE,aF])
  refine Four.Grow.made (T:= ?_) rfl rfl (fun wg hbg hdg=> ?_) ?_
  rotate_left
  focus((obtain⟨df,db,dh⟩:=GB.off hbg.off bt);(obtain⟨cz,cG,cy⟩:=BG.off hbg.off ay);clear hbg hdg;first|(go_simp;done)|(go_simp;with_reducible rfl))
  simp only[Act.put,Known.val,aB,aE,aF]
  refine Four.Grow.gives rfl (fun wg hbg hdg=> ?_) ?_
  focus((obtain⟨bn,e6,hbn,cB⟩:=hdg 6 (by kernel_rfl);have hb0:Below W2.heap.size W2 wg:=hbg.1.below (aC _) (fun q _ ⟨j,hj,_,h⟩=>absurd (HX.2 j q h) hj);have bj:=hb0.size;simp only[e6];exact tF (.tmp 36) (.tmp 38) 22 3 rfl oW rfl rfl (HV.own.later hb0) (Row.of_box (n:=1) (size:=1) cB rfl (by omega)) (by simp[Value.oneCell']) (by unfold maxLen;omega) (by omega) (aT HW.size bj) (fun y hy=>bD (HV.lt hy) bj) bj (fun q hq=>(HX.1 q).2 hq)))
  simp only[Act.put,Known.val,aB,aE,aF]
  intro wg hb hf dd
  obtain⟨an,ak,al,ae⟩:=hf 6 (by omega)
  have ai:an≠N.gb:=fun e=>by have:=ba;omega
  have nGBBN:N.gb≠an:=fun e=>ai e.symm
  have ah:an≠N.bg:=fun e=>by have:=bm;omega
  have nBGBN:N.bg≠an:=fun e=>ah e.symm
  simp only[ak]
  clear ak
  clear dd
  have gBN:=aT HW.size al
  clear al
  clear ba ch cc bm cs cq
  replace GB:=h! (GB.off hb.1 bt)
  replace BG:=h! (BG.off hb.1 ay)
  replace HW:=h! (HW.trans (hb.1.below HW.size af))
  have BN:=h! ae
  clear ae
  obtain⟨ba,ch,cc⟩:=GB.out
  obtain⟨bm,cs,cq⟩:=BG.out
  obtain⟨lBN,cBN,fBN⟩:=BN.out
  have hS:AppS W2 w.heap.size N.list 3 1 (.slice oa d'.length oc) (d'.length+1) ((d'.map fun x:Nat=>Value.int .i64 x)++[.int .i64 b]) (ν 7) wg:=hf 7 (by omega)
  clear hf
  obtain⟨am,ab⟩:=hS
  obtain⟨bc,be,e7⟩:=am.form
  rw[e7]at am ab
  simp only[e7]
  have bd:Kept [] (.slice oa d'.length oc) (.slice bc (d'.length+1) be) W2 wg:=⟨hb.1.os,hb.1.tape,hb.1.output,hb.1.size,fun k hk _ hn=>hb.1.block k hk (fun hm=>hn (aq k hm)),ab⟩
  have br:=h! (HV.push am bd)
  have bh:=h! ((HK.trans (bd.more (by simp))).trans (Kept.set (bs:=[N.B,N.bg]) wg (p:=⟨N.bg,5,none⟩) (.slice bc (d'.length+1) be) (by simp)))
  have bq:=h! (HW.setCell (p:=⟨N.bg,5,none⟩) (aa _ (by simp[VisN.list])) (.slice bc (d'.length+1) be))
  clear am ab bd hb e7 BN
  go_wp2
  exact bodyPost_end (v:=.tuple #[]) (by simp[results,Tryz.results128,go_sem, *]) rfl ⟨rfl,s',d',_,aj.out,br.out,bh.out,bq.out⟩
end
section
open Go.RowKit
def idxI(xs:List Int)(x:Int):Int:=if x∈xs then (xs.idxOf x:Nat) else -1
theorem aD7{xs:List Int}{x:Int}{k:Nat}(h:xs[k]? =some x)(hno:x∉xs.take k):idxI xs x=k:=by
 unfold idxI;rw[if_pos (aG h)];have h1:=dJ k xs;have hk:=(aD.1 h).1;have h2:xs.drop k=x :: xs.drop (k+1):=by rw[List.drop_eq_getElem_cons hk];rw[(aD.1 h).2]
 rw[<-h1,h2,List.idxOf_append,if_neg hno,List.idxOf_cons_self,bB];omega
theorem aD8{xs:List Int}{x:Int}(h:x∉xs):idxI xs x= -1:=if_neg h
theorem aJO{xs:List Int}{x:Int}:decide (0<=idxI xs x)=xs.contains x:=by
 unfold idxI;by_cases h:x∈xs
 ·rw[if_pos h];simp[h]
 rw[if_neg h];simp[h]
theorem rQ{w:World}{v:Value}{xs:List Int}{x:Int}(hs:Ints w v xs):
  Calls Tryz.prog 87 #[v,.int .i64 x] w fun e w'=>e=.returned (.int .i64 (idxI xs x))/\w=w':=by
 have ad:=hs.le;obtain⟨a,cap,b,off,rfl,h1,h2,h3,h4⟩:=hs.parts;obtain⟨n,hn⟩:∃n,n=xs.length:=⟨_,rfl⟩;rw[<-hn]at h1 h3 ad⊢;have HN:=h! hn;have H3:=h! h3;have H4:=h! h4;clear hs h3 h4 hn;go_enter Tryz.func87,Tryz.ntmps87;go_wp2_with fail;go_loopw [8] (fun i wr=>∃k:Nat,k<=n/\i=.int .i64 k/\x∉xs.take k/\wr=w) (fun i _=>n - (intOf i).toNat)
 case atStart=>exact⟨0,aL _,rfl,by simp,rfl⟩
 case round=>
  obtain⟨k,hk,rfl,ac,rfl⟩:=hrel;have aa:=h! ac;clear ac;by_cases hlt:k<n
  ·obtain⟨rfl,hb⟩:=H3.out (by omega);obtain⟨y,hy⟩:∃y,xs[k]? =some y:=⟨_,aA (by have:=HN.out;omega)⟩;have hc:=H4.out k (by have:=HN.out;omega);rw[show xs.getD k 0=y by rw[aH,hy];rfl]at hc;have HY:=h! hy;clear hy
   cases hxy:(x == y)
   ·have ab:=h! hxy;go_wp2;go_roundw
    case rel=>exact⟨k+1,hlt,by go_num,by rw[fR xs k y HY.out];have:=ab.out;have:=aa.out;simp at*;grind,trivial⟩
    simp[intOf];omega
   have ab:=h! hxy;go_wp2;go_ret;have e:y=x:=by have:=ab.out;simp at this;grind
   exact⟨by rw[aD7 (e ▸ HY.out) aa.out];rfl,rfl⟩
  obtain rfl:k=n:=by omega
  have ae:Hid (x∉xs):=h! (by have:=aa.out;rwa[aI (by have:=HN.out;omega)]at this);go_wp2;go_ret;exact⟨by rw[aD8 ae.out];rfl,rfl⟩
theorem aIQ{w:World}{v:Value}{xs:List Int}{x:Int}(hs:Ints w v xs):
  Calls Tryz.prog 32 #[v,.int .i64 x] w fun e w'=>e=.returned (.bool (xs.contains x))/\w=w':=by
 have ad:=hs.le;obtain⟨a,cap,b,off,rfl,h1,h2,h3,h4⟩:=hs.parts;obtain⟨n,hn⟩:∃n,n=xs.length:=⟨_,rfl⟩;rw[<-hn]at h1 h3 ad⊢;have HN:=h! hn;have H3:=h! h3;have H4:=h! h4;clear hs h3 h4 hn;go_enter Tryz.func32,Tryz.ntmps32;go_wp2_with fail;go_loopw [5] (fun i wr=>∃k:Nat,k<=n/\i=.int .i64 k/\x∉xs.take k/\wr=w) (fun i _=>n - (intOf i).toNat)
 case atStart=>exact⟨0,aL _,rfl,by simp,rfl⟩
 case round=>
  obtain⟨k,hk,rfl,ac,rfl⟩:=hrel;have ab:=h! ac;clear ac;by_cases hlt:k<n
  ·obtain⟨rfl,hb⟩:=H3.out (by omega);obtain⟨y,hy⟩:∃y,xs[k]? =some y:=⟨_,aA (by have:=HN.out;omega)⟩;have hc:=H4.out k (by have:=HN.out;omega);rw[show xs.getD k 0=y by rw[aH,hy];rfl]at hc;have HY:=h! hy;clear hy
   cases hxy:(y == x)
   ·have aa:=h! hxy;go_wp2;go_roundw
    case rel=>exact⟨k+1,hlt,by go_num,by rw[fR xs k y HY.out];have:=aa.out;have:=ab.out;simp at*;grind,trivial⟩
    simp[intOf];omega
   have aa:=h! hxy;go_wp2;go_ret;have e:y=x:=by have:=aa.out;simp at this;grind
   exact⟨iD (by have h9:=aG (e ▸ HY.out);simp[h9]),rfl⟩
  obtain rfl:k=n:=by omega
  have ae:Hid (x∉xs):=h! (by have:=ab.out;rwa[aI (by have:=HN.out;omega)]at this);go_wp2;go_ret;exact⟨iD (by have h9:=ae.out;simp[h9]),rfl⟩
theorem vV{w:World}{v:Value}{xs:List Int}{x:Int}(hs:Ints w v xs):
  Calls Tryz.prog 66 #[v,.int .i64 x] w fun e w'=>e=.returned (.bool (xs.contains x))/\w=w':=by
 have HS:=h! hs;have HI:=h! (aJO (xs:=xs) (x:=x));clear hs;go_enter Tryz.func66,Tryz.ntmps66;go_wp2_with fail;refine(rQ HS.out).mono ?_;rintro e w' ⟨rfl,rfl⟩;generalize idxI xs x=q at*;go_wp2;go_ret;exact⟨iD HI.out,rfl⟩
end
section
open Go.RowKit
structure Bag(W:World)(base:Nat)(bs:List Nat)(BP:Nat)(T:TypeId)(vs:List Value)(xss:List (List Int)):Prop where
 box:Box W BP vs.toArray
 len:vs.length=xss.length
 own:∀(j:Nat) (v:Value) (xs:List Int),vs[j]? =some v->xss[j]? =some xs->Own W base (BP :: bs) T 1 v xs.length (xs.map (.int .i64))
 apart:∀(i j:Nat) (u v:Value) (g:Nat),i≠j->vs[i]? =some u->vs[j]? =some v->u.ownBlock=some g->v.ownBlock≠some g
theorem Bag.both{W:World}{base:Nat}{bs:List Nat}{BP:Nat}{T:TypeId}{vs:List Value}{xss:List (List Int)}(h:Bag W base bs BP T vs xss){j:Nat}{v:Value}(hv:vs[j]? =some v):∃xs,xss[j]? =some xs:=
 ⟨_,aA (by rw[<-h.len];exact(aD.1 hv).1)⟩
theorem Bag.at{W:World}{base:Nat}{bs:List Nat}{BP:Nat}{T:TypeId}{vs:List Value}{xss:List (List Int)}(h:Bag W base bs BP T vs xss){j:Nat}{xs:List Int}(hx:xss[j]? =some xs):∃v,vs[j]? =some v/\W.cell? ⟨BP,j,none⟩=some v/\Own W base (BP :: bs) T 1 v xs.length (xs.map (.int .i64)):=by
 have hj:j<vs.length:=by rw[h.len];exact(aD.1 hx).1
 refine⟨vs[j],aA hj,h.box.at j (by simp[hj]),h.own j _ _ (aA hj) hx⟩
theorem Bag.keep{W W':World}{base:Nat}{bs:List Nat}{BP:Nat}{T:TypeId}{vs:List Value}{xss:List (List Int)}(h:Bag W base bs BP T vs xss)(hB:Box W' BP vs.toArray)(hk:∀(j:Nat) (v:Value) (g:Nat),vs[j]? =some v->v.ownBlock=some g->W'.heap[g]? =W.heap[g]?):Bag W' base bs BP T vs xss:=
 ⟨hB,h.len,fun j v xs hv hx=>(h.own j v xs hv hx).keep fun g hg=>hk j v g hv hg,h.apart⟩
theorem Bag.later{W W':World}{base:Nat}{bs:List Nat}{BP:Nat}{T:TypeId}{vs:List Value}{xss:List (List Int)}(h:Bag W base bs BP T vs xss)(hb:Below W.heap.size W W'):Bag W' base bs BP T vs xss:=
 h.keep (h.box.later hb) fun j v g hv hg=>by obtain⟨xs,hx⟩:=h.both hv;exact hb.block g ((h.own j v xs hv hx).lt hg).1
theorem Bag.alloc{W:World}{base:Nat}{bs:List Nat}{BP:Nat}{T:TypeId}{vs:List Value}{xss:List (List Int)}(h:Bag W base bs BP T vs xss)(o:Obj):Bag (W.alloc o) base bs BP T vs xss:=h.later ((Below.refl _ _).alloc (aC _) o)
theorem Bag.other{W:World}{base:Nat}{bs:List Nat}{BP:Nat}{T:TypeId}{vs:List Value}{xss:List (List Int)}(h:Bag W base bs BP T vs xss){p:Addr}(u:Value)(hp:p.block∈bs)(hne:BP≠p.block):Bag (W.setCell p u) base bs BP T vs xss:=
 h.keep (h.box.other u hne) fun j v g hv hg=>by obtain⟨xs,hx⟩:=h.both hv;exact Below.heap_setCell W p u g fun e=>(h.own j v xs hv hx).free g hg (by rw[e];exact bL _ hp)
theorem Bag.turn{W W':World}{base:Nat}{bs ts:List Nat}{BP:Nat}{T:TypeId}{vs:List Value}{xss:List (List Int)}(h:Bag W base bs BP T vs xss)(ht:Turn ts W W')(hB:BP∉ts)(hts:∀x∈ts,x∈bs):Bag W' base bs BP T vs xss:=
 h.keep (h.box.turn ht hB) fun j v g hv hg=>by obtain⟨xs,hx⟩:=h.both hv;exact ht.block g ((h.own j v xs hv hx).lt hg).1 fun hm=>(h.own j v xs hv hx).free g hg (bL _ (hts g hm))
theorem Bag.kept{W W':World}{base:Nat}{bs ts:List Nat}{ov ov':Value}{BP:Nat}{T:TypeId}{vs:List Value}{xss:List (List Int)}(h:Bag W base bs BP T vs xss)(ht:Kept ts ov ov' W W')(hn:ov.ownBlock=none)(hB:BP∉ts)(hts:∀x∈ts,x∈bs):Bag W' base bs BP T vs xss:=
 h.turn (ts:=ts) ⟨ht.os,ht.tape,ht.output,ht.size,fun k hk hm=>ht.block k hk hm (by rw[hn];simp)⟩ hB hts
theorem Bag.less{W:World}{base:Nat}{bs bs':List Nat}{BP:Nat}{T:TypeId}{vs:List Value}{xss:List (List Int)}(h:Bag W base bs BP T vs xss)(hb:∀x∈bs',x∈bs):Bag W base bs' BP T vs xss:=
 ⟨h.box,h.len,fun j v xs hv hx=>(h.own j v xs hv hx).less (fun b hm=>by
  rcases bZ.1 hm with rfl|hm
  ·exact dX
  exact bL _ (hb b hm)),h.apart⟩
theorem Bag.more{W:World}{base:Nat}{bs:List Nat}{BP:Nat}{T:TypeId}{vs:List Value}{xss:List (List Int)}(h:Bag W base bs BP T vs xss){b:Nat}(hb:W.heap.size<=b):Bag W base (b :: bs) BP T vs xss:=
 ⟨h.box,h.len,fun j v xs hv hx=>((h.own j v xs hv hx).more hb).less (fun x hm=>by simp at hm⊢;rcases hm with rfl|rfl|hm<;>simp[*]),h.apart⟩
theorem Bag.empty{W:World}{base BP:Nat}{bs:List Nat}{T:TypeId}{n:Nat}(h:Box W BP (madeCells #[.slice none 0 0] n)):Bag W base bs BP T (List.replicate n (.slice none 0 0)) (List.replicate n []):=by
 refine⟨?_,by simp,fun j v xs hv hx=> ?_,fun i j u v g _ hu _ hg=> ?_⟩
 ·have:madeCells #[Value.slice none 0 0] n=(List.replicate n (Value.slice none 0 0)).toArray:=by rw[<-toList_madeCells_one]
  rwa[this]at h
 ·have h1:=cY (aG hv);have h2:=cY (aG hx);subst h1 h2;exact Own.nil
 have h1:=cY (aG hu);subst h1
 cases hg
theorem Bag.put{W w2:World}{base:Nat}{bs:List Nat}{BP:Nat}{T:TypeId}{vs:List Value}{xss:List (List Int)}(h:Bag W base bs BP T vs xss){j:Nat}{v v2:Value}{xs ys:List Int}(hv:vs[j]? =some v)(hx:xss[j]? =some xs)
  (hO:Own w2 base (BP :: bs) T 1 v2 ys.length (ys.map (.int .i64))) (hK:Kept [] v v2 W w2):Bag (w2.setCell ⟨BP,j,none⟩ v2) base bs BP T (vs.set j v2) (xss.set j ys):=by
 have aa:=h.own j v xs hv hx;have ab:v.ownBlock≠some BP:=fun e=>aa.free _ e dX;refine⟨?_,by rw[cQ,cQ];exact h.len,fun i u zs hu hz=> ?_,fun a b u u2 g hab hu hu2 hg=> ?_⟩
 ·have:=(h.box.kept hK (by simp) ab).set j v2;rwa[aB]at this
 ·rw[cT]at hu hz;by_cases e:j=i
  ·subst e;have h1:j<vs.length:=(aD.1 hv).1;have h2:j<xss.length:=(aD.1 hx).1;simp only[if_true,h1,h2]at hu hz
   cases hu;cases hz;exact hO.other _ dX
  rw[if_neg e]at hu hz;have h1:=h.own i u zs hu hz;refine(h1.keep fun g hg=>hK.block g (h1.lt hg).1 (by simp) fun e2=> ?_).other _ dX;exact h.apart i j u v g (Ne.symm e) hu hv hg e2
 ·rw[cT]at hu hu2;have h1:j<vs.length:=(aD.1 hv).1;by_cases e:j=a
  ·subst e;rw[if_neg hab]at hu2;simp only[if_true,h1]at hu
   cases hu;intro e2;obtain⟨zs,hz⟩:=h.both hu2;have h3:=(h.own b u2 zs hu2 hz).lt e2;rcases hK.own g hg with h4|h4
   ·exact h.apart j b v u2 g hab hv hu2 h4 e2
   omega
  rw[if_neg e]at hu;by_cases e3:j=b
  ·subst e3;simp only[if_true,h1]at hu2
   cases hu2;intro e2;obtain⟨zs,hz⟩:=h.both hu;have h3:=(h.own a u zs hu hz).lt hg;rcases hK.own g e2 with h4|h4
   ·exact h.apart a j u v g (Ne.symm e) hu hv hg h4
   omega
  rw[if_neg e3]at hu2;exact h.apart a b u u2 g hab hu hu2 hg
theorem Bag.lists{W:World}{base:Nat}{bs:List Nat}{BP:Nat}{T:TypeId}{vs:List Value}{xss:List (List Int)}(h:Bag W base bs BP T vs xss)(hn:xss.length<=17592186044416)(hx:∀xs∈xss,xs.length<=17592186044416/\∀x∈xs,In64 x):
  nA W (.slice (some ⟨BP,0,none⟩) xss.length xss.length) xss:=by
 refine⟨vs,h.len,Row.of_box (n:=xss.length) (size:=1) h.box (by simp[h.len]) hn,fun j hj=> ?_⟩;obtain⟨v,hv,_,hO⟩:=h.at (aA hj);have e1:vs.getD j undef=v:=by rw[aH,hv];rfl
 have e2:xss.getD j []=xss[j]:=by rw[aH,aA hj];rfl
 rw[e1,e2];obtain⟨h1,h2⟩:=hx _ (dD hj);exact Ints.of_own hO.row h1 h2
end
section
open Go.RowKit Go.Shelf
def xP:Go.Shelf.Ren:=⟨fun|112=>129|n=>n,
 fun|28=>22|3=>3|0=>0|4=>4|n=>n,
 fun|n=>n⟩
theorem aD9:Go.Proofs.Lays.n112 Tryz.prog xP:={
 mixed:=by kernel_rfl
 f112:=Tryz.func129.trans (congrArg some (by kernel_rfl))
 t0:=Tryz.underlying0
 a0:=Tryz.isAgg0
 z0:=Tryz.sizeOf0
 v0:=Tryz.zeroValue0
 t3:=Tryz.underlying3
 a3:=Tryz.isAgg3
 z3:=Tryz.sizeOf3
 v3:=Tryz.zeroValue3
 t4:=Tryz.underlying4
 a4:=Tryz.isAgg4
 z4:=Tryz.sizeOf4
 v4:=Tryz.zeroValue4
 t28:=Tryz.underlying22
 a28:=Tryz.isAgg22
 z28:=Tryz.sizeOf22
 v28:=Tryz.zeroValue22 }
theorem aBC{w:World}{base:Nat}{bs:List Nat}{u:Value}{xs:List Int}(h:Own w base bs 3 1 u xs.length (xs.map (.int .i64)))(hn:xs.length<=17592186044416):
  Calls Tryz.prog 129 #[u] w fun e w'=>e=.returned (.tuple #[])/\Own w' base bs 3 1 u xs.length (xs.reverse.map (.int .i64))/\Kept [] u u w w':=by
 rcases h.row.2 with⟨rfl,h0⟩|⟨g,aa,cur,rfl,hbg,hh,h1,h2,h3,h4⟩
 ·have hx:xs=[]:=cS h0;subst hx;refine(Any.slices_Reverse_int_empty aD9 none 0 w).mono ?_;rintro e w' ⟨rfl,rfl⟩;exact⟨rfl,h,Kept.refl _ _ _⟩
 ·refine(Any.slices_Reverse_int aD9 g 0 aa xs w (Go.holds_of_blockI hh (by rw[eN]at h4;exact h4)) (by omega)).mono ?_;rintro e w' ⟨rfl,nd,hw⟩;have e0:Go.Sort.putRow (Value.int .i64) (Go.Sort.ahead w nd) g 0 xs.reverse.toArray=Go.Sort.grow (Go.Sort.putRow (Value.int .i64) (Go.Sort.ahead w nd) g 0 xs.reverse.toArray) #[]:=by simp only[Go.Sort.grow,Array.append_empty]
  have hg:=Go.grownBy_sortedI (w:=w) (g:=g) (n:=nd) (os:=#[]) xs.reverse.toArray;rw[<-e0,<-hw]at hg;refine⟨rfl,⟨?_,h.free⟩,⟨hg.os,hg.tape,hg.output,hg.size,fun k hk _ hn=>hg.block k hk (fun e=>hn e.symm),fun k hk=>.inl hk⟩⟩;rw[hw,e0];exact Go.ownsRow_sortedI (by simp) hbg hh h1 h2 h3
end
section
open Go.RowKit
def gT(f:FuncD)(i k t:Nat):List Nat:=((List.range i).filter fun b=>(toB f b).contains t)++(if ((toB f i).take k).contains t then [i] else [])
def natI(l:List Nat):List Int:=l.map fun b:Nat=>(b:Int)
def mD(f:FuncD)(i k:Nat):List (List Int):=(List.range f.blocks.length).map fun t=>natI (gT f i k t)
def iX(f:FuncD):List (List Int):=mD f f.blocks.length 0
theorem iM(f:FuncD)(i t:Nat):gT f i 0 t=(List.range i).filter fun b=>(toB f b).contains t:=by simp[gT]
theorem jL(f:FuncD)(i k:Nat):(mD f i k).length=f.blocks.length:=by simp[mD]
theorem mG{f:FuncD}{i k t:Nat}(h:t<f.blocks.length):(mD f i k)[t]? =some (natI (gT f i k t)):=by simp[mD,h]
theorem xQ(f:FuncD):mD f 0 0=List.replicate f.blocks.length []:=by
 apply bJ;intro t;by_cases h:t<f.blocks.length
 ·rw[mG h,iM];simp[h,natI]
 rw[aS (by rw[jL];omega),aS (by simp;omega)]
theorem qQ(f:FuncD)(i k t:Nat):(gT f i k t).length<=i+1:=by
 unfold gT;rw[aO];have h1:=List.length_filter_le (fun b=>(toB f b).contains t) (List.range i);rw[dL]at h1;split
 ·simp only[bI,dA];omega
 simp only[dA];omega
theorem aG9{f:FuncD}{i k t b:Nat}(h:b∈gT f i k t):b<=i:=by
 unfold gT at h;rcases aJ.1 h with h|h
 ·have:=(dU.1 h).1;rw[bQ]at this;omega
 split at h
 ·simp at h;omega
 simp at h
theorem nF{l:List Nat}{k t:Nat}(h:l[k]? =some t)(u:Nat):(l.take (k+1)).contains u=((l.take k).contains u||u == t):=by rw[cX,h];simp[List.contains_eq_mem,aJ,Bool.decide_or];rfl
theorem aEA{f:FuncD}{i k t:Nat}(hk:(toB f i)[k]? =some t)(hno:((toB f i).take k).contains t=false)(ht:t<f.blocks.length):(mD f i k).set t (natI (gT f i k t++[i]))=mD f i (k+1):=by
 apply bJ;intro u;rw[cT,jL];by_cases hu:u<f.blocks.length
 ·rw[mG hu,mG hu];by_cases e:t=u
  ·subst e;rw[if_pos rfl,if_pos hu];unfold gT;rw[nF hk,hno];simp
  rw[if_neg e];unfold gT;rw[nF hk,show(u == t)=false by simpa using Ne.symm e,Bool.or_false]
 rw[aS (by rw[jL];omega),aS (by rw[jL];omega)];split<;>simp_all
theorem aEB{f:FuncD}{i k t:Nat}(hk:(toB f i)[k]? =some t)(hin:((toB f i).take k).contains t=true):mD f i (k+1)=mD f i k:=by
 unfold mD;refine bT fun u _=> ?_;unfold gT;rw[nF hk];by_cases e:u=t
 ·subst e;rw[hin];simp
 rw[show(u == t)=false by simpa using e,Bool.or_false]
theorem aBD(f:FuncD)(i:Nat):mD f i (toB f i).length=mD f (i+1) 0:=by unfold mD;refine bT fun u _=> ?_;rw[iM];unfold gT;rw[cO,fK,eR];congr 2;simp only[eL,List.filter_nil]
theorem gW(l:List Nat):(natI l).length=l.length:=by simp[natI]
theorem aEC{l:List Nat}(h:∀b∈l,b<=1000000):∀x∈natI l,In64 x:=by intro x hx;obtain⟨b,hb,rfl⟩:=aN.1 hx;have:=h b hb;exact⟨by omega,by omega⟩
theorem zB{f:FuncD}{i k:Nat}(hi:i<=1000):∀xs∈mD f i k,xs.length<=17592186044416/\∀x∈xs,In64 x:=by intro xs hx;obtain⟨t,_,rfl⟩:=aN.1 hx;have:=qQ f i k t;exact⟨by rw[gW];omega,aEC fun b hb=>by have:=aG9 hb;omega⟩
theorem pM{l:List Int}(h:∀x∈l,0<=x)(t:Nat):l.contains (t:Int)=(l.map Int.toNat).contains t:=by
 rw[cH,dN,dN,aN];constructor
 ·intro hm;exact⟨_,hm,rfl⟩
 rintro⟨x,hx,rfl⟩;have:=h x hx;rwa[fH this]
theorem rR{W:World}{b:Nat}{x:Int}(h:Box W b #[.int .i64 x])(hx:In64 x):Ints W (.slice (some ⟨b,0,none⟩) 1 1) [x]:=
 ⟨Row.of_box (n:=1) (size:=1) h rfl (by omega),by simpa using hx⟩
theorem zC:(Tryz.prog.info? 22).map (fun i=>(i.zero,i.size,i.bytes))=some (some (.slice none 0 0),1,24):=by kernel_rfl
theorem uF:(Tryz.prog.info? 4).map (fun i=>(i.zero,i.size,i.bytes))=some (some (.bool false),1,1):=by kernel_rfl
theorem oH(n:Nat):madeCells #[Value.bool false] n=iJ (List.replicate n false):=by unfold iJ;rw[List.map_replicate,<-toList_madeCells_one]
end
section
open Go.RowKit
def jG(n:Nat)(O:List Nat)(i:Nat):List Int:=(List.range n).map fun b=>if b∈O.take i then ((O.idxOf b:Nat):Int) else -1
theorem gP(n:Nat)(O:List Nat)(i:Nat):(jG n O i).length=n:=by simp[jG]
theorem vW(n:Nat)(O:List Nat):jG n O 0=List.replicate n (-1):=by apply bJ;intro t;by_cases h:t<n<;>simp[jG,h]
theorem qR{O:List Nat}{i b:Nat}(hnd:O.Nodup)(h:O[i]? =some b):O.idxOf b=i:=by obtain⟨hi,rfl⟩:=aD.1 h;exact hnd.idxOf_getElem i hi
theorem aBE{n:Nat}{O:List Nat}{i b:Nat}(hnd:O.Nodup)(h:O[i]? =some b)(hb:b<n):(jG n O i).set b (i:Int)=jG n O (i+1):=by
 apply bJ;intro t;rw[cT,gP];by_cases ht:t<n
 ·have h1:∀k,(jG n O k)[t]? =some (if t∈O.take k then ((O.idxOf t:Nat):Int) else -1):=fun k=>by simp[jG,ht]
  rw[h1,h1];have h2:t∈O.take (i+1)↔t∈O.take i\/t=b:=by rw[fR _ _ _ h,aJ,cC]
  by_cases e:b=t
  ·subst e;rw[if_pos rfl,if_pos hb,if_pos (h2.2 (.inr rfl)),qR hnd h]
  rw[if_neg e];have h3:t∈O.take (i+1)↔t∈O.take i:=by rw[h2];exact or_iff_left (Ne.symm e)
  simp only[h3]
 rw[aS (by rw[gP];omega),aS (by rw[gP];omega)];split<;>simp_all
theorem aED{n:Nat}{O:List Nat}(i:Nat)(h:O.length<=1000):∀x∈jG n O i,In64 x:=by
 intro x hx;obtain⟨b,_,rfl⟩:=aN.1 hx;have:=List.idxOf_le_length (a:=b) (l:=O);split
 ·exact⟨by omega,by omega⟩
 exact⟨by omega,by omega⟩
def fQ(f:FuncD)(O:List Nat):Prop:=∃s',Steps (toB f) [0] (List.replicate f.blocks.length false) [] s' O.reverse
def pN(f:FuncD)(v:Value)(w0 W:World)(bg:Nat)(O:List Nat):Prop:=
 ∃(a0 a1 a2 a3 pv ov lv:Value),v=.agg #[a0,a1,a2,a3]/\Box W bg #[a0,a1,a2,a3,pv,ov,lv]/\w0.heap.size<=bg/\nA W pv (iX f)/\Ints W ov (natI O)/\Ints W lv (jG f.blocks.length O O.length)
def NewR(f:FuncD)(v:Value)(w:World)(e:Ending)(w':World):Prop:=∃bg O,e=.returned (.pointer (some ⟨bg,0,none⟩))/\fQ f O/\pN f v w w' bg O/\Below w.heap.size w w'
theorem fQ.le{f:FuncD}{O:List Nat}(h:fQ f O):O.length<=f.blocks.length:=by obtain⟨s',hs⟩:=h;have h1:=hs.total;simp at h1;omega
structure Cells(W:World)(v:Value)(g:Nat)(xs:List Int):Prop where
 is:∃(cap:Nat) (A:Array Value),v=.slice (some ⟨g,0,none⟩) xs.length cap/\xs.length<=cap/\cap<=maxLen/\Box W g A/\∀(j:Nat) (x:Int),xs[j]? =some x->A[j]? =some (.int .i64 x)
theorem Cells.ints{W:World}{v:Value}{g:Nat}{xs:List Int}(h:Cells W v g xs)(hn:xs.length<=17592186044416)(h64:∀x∈xs,In64 x):Ints W v xs:=by
 obtain⟨aa,A,rfl,h1,h2,h3,h4⟩:=h.is;refine⟨⟨by simp,hn,_,aa,rfl,h1,h2,by simp,fun ad ha j u hj=> ?_⟩,h64⟩
 cases ha;rw[wQ,bM,h3.cell];rw[aM]at hj;obtain⟨x,hx,rfl⟩:=eP.1 hj;exact h4 j x hx
theorem Cells.later{W W':World}{v:Value}{g:Nat}{xs:List Int}(h:Cells W v g xs)(hb:Below W.heap.size W W'):Cells W' v g xs:=by obtain⟨aa,A,e,h1,h2,h3,h4⟩:=h.is;exact⟨aa,A,e,h1,h2,h3.later hb,h4⟩
theorem Cells.other{W:World}{v:Value}{g:Nat}{xs:List Int}(h:Cells W v g xs){p:Addr}(u:Value)(hp:g≠p.block):Cells (W.setCell p u) v g xs:=by obtain⟨aa,A,e,h1,h2,h3,h4⟩:=h.is;exact⟨aa,A,e,h1,h2,h3.other u hp,h4⟩
theorem Cells.turn{W W':World}{v:Value}{g:Nat}{xs:List Int}{bs:List Nat}(h:Cells W v g xs)(ht:Turn bs W W')(hp:g∉bs):Cells W' v g xs:=by obtain⟨aa,A,e,h1,h2,h3,h4⟩:=h.is;exact⟨aa,A,e,h1,h2,h3.turn ht hp,h4⟩
theorem Cells.lt{W:World}{v:Value}{g:Nat}{xs:List Int}(h:Cells W v g xs):g<W.heap.size:=by obtain⟨cap,A,e,h1,h2,h3,h4⟩:=h.is;exact h3.lt
theorem Cells.set{W:World}{v:Value}{g:Nat}{xs:List Int}(h:Cells W v g xs){j:Nat}{x:Int}(hj:j<xs.length):Cells (W.setCell ⟨g,j,none⟩ (.int .i64 x)) v g (xs.set j x):=by
 obtain⟨aa,A,e,h1,h2,h3,h4⟩:=h.is;refine⟨aa,A.setIfInBounds j (.int .i64 x),by rw[cQ];exact e,by rw[cQ];exact h1,h2,h3.set j _,fun i y hi=> ?_⟩;have hA:j<A.size:=by have:=h4 j _ (aA hj);exact(aQ.1 this).1
 rw[cT]at hi;rw[Array.getElem?_setIfInBounds];by_cases e2:j=i
 ·subst e2;simp only[if_true,hj,hA]at hi⊢
  cases hi;rfl
 rw[if_neg e2]at hi⊢;exact h4 i y hi
theorem New.cells{T:TypeId}{w w':World}{u:Value}{xs:List Int}(h:New T w w' u xs)(hn:0<xs.length):∃g,Cells w' u g xs/\w.heap.size<=g:=by
 rcases h.own.2 with⟨rfl,h0⟩|⟨g,ac,ab,rfl,hb,hh,h1,h2,h3,h4⟩
 ·omega
 refine⟨g,⟨ac,ab,rfl,h1,h2,⟨(aQ.1 hh).1,fun o=>by simp[World.cell?,hh],fun o=>by simp[World.frozen?,hh]⟩,fun j x hj=> ?_⟩,hb⟩;have aa:j<xs.length:=(aD.1 hj).1;rw[<-Array.getElem?_toList];have:=congrArg (fun l=>l[j]?) h4;simp only[eN,aM,hj,dB]at this;rw[bF,if_pos aa]at this;exact this
theorem Cells.form{W:World}{v:Value}{g:Nat}{xs:List Int}(h:Cells W v g xs):∃cap,v=.slice (some ⟨g,0,none⟩) xs.length cap/\xs.length<=cap/\cap<=9223372036854775807/\(∀(j:Nat) (x:Int),xs[j]? =some x->W.cell? ⟨g,j,none⟩=some (.int .i64 x))/\∀j:Nat,W.frozen? ⟨g,j,none⟩=false:=by obtain⟨cap,A,e,h1,h2,h3,h4⟩:=h.is;refine⟨cap,e,h1,by unfold maxLen at h2;omega,fun j x hj=>h3.at j (h4 j x hj),h3.free⟩
structure GrB(w0:World)(nb:Nat)(a0 a1 a2 a3 u:Value)(W:World):Prop where
 ex:∃bp g cap,u=.agg #[a0,a1,a2,a3,.slice (some ⟨bp,0,none⟩) nb nb,.slice none 0 0,.slice (some ⟨g,0,none⟩) nb cap]/\Box W bp (madeCells #[.slice none 0 0] nb)/\w0.heap.size<=bp/\Cells W (.slice (some ⟨g,0,none⟩) nb cap) g (List.replicate nb (-1))/\w0.heap.size<=g/\bp≠g
structure GrP(w0:World)(nb:Nat)(a0 a1 a2 a3 u:Value)(W:World):Prop where
 ex:∃bg bp g cap,u=.pointer (some ⟨bg,0,none⟩)/\Box W bg #[a0,a1,a2,a3,.slice (some ⟨bp,0,none⟩) nb nb,.slice none 0 0,.slice (some ⟨g,0,none⟩) nb cap]/\Box W bp (madeCells #[.slice none 0 0] nb)/\w0.heap.size<=bp/\Cells W (.slice (some ⟨g,0,none⟩) nb cap) g (List.replicate nb (-1))/\w0.heap.size<=g/\bp≠g/\bp<bg/\g<bg
theorem GrB.later{w0:World}{nb:Nat}{a0 a1 a2 a3 u:Value}{W W':World}(h:GrB w0 nb a0 a1 a2 a3 u W)(hb:Below W.heap.size W W'):GrB w0 nb a0 a1 a2 a3 u W':=by obtain⟨bp,g,aa,e,h1,h2,h3,h4⟩:=h.ex;exact⟨bp,g,aa,e,h1.later hb,h2,h3.later hb,h4⟩
theorem GrP.later{w0:World}{nb:Nat}{a0 a1 a2 a3 u:Value}{W W':World}(h:GrP w0 nb a0 a1 a2 a3 u W)(hb:Below W.heap.size W W'):GrP w0 nb a0 a1 a2 a3 u W':=by obtain⟨bg,bp,g,aa,e,h0,h1,h2,h3,h4⟩:=h.ex;exact⟨bg,bp,g,aa,e,h0.later hb,h1.later hb,h2,h3.later hb,h4⟩
theorem xR{W:World}{bp g n:Nat}{v:Value}{xs:List Int}(hB:Box W bp (madeCells #[.slice none 0 0] n))(hC:Cells W v g xs)(hn:0<n)(hx:0<xs.length):bp≠g:=by
 intro e;subst e;obtain⟨cap,A,e1,h1,h2,h3,h4⟩:=hC.is;have h5:=h3.at 0 (h4 0 _ (aA hx));have h6:madeCells #[Value.slice none 0 0] n=(List.replicate n (Value.slice none 0 0)).toArray:=by rw[<-toList_madeCells_one]
 have h7:=hB.at 0 (v:=.slice none 0 0) (by rw[h6];simp[hn]);rw[h5]at h7
 cases h7
theorem fQ.facts{f:FuncD}{O:List Nat}(h:fQ f O):O.Nodup/\(∀b,b∈O↔Way (toB f) (-1) b)/\(∀b∈O,b<f.blocks.length)/\O[0]? =some 0/\∀(i b:Nat),O[i]? =some b->b≠0->∃(j p:Nat),j<i/\O[j]? =some p/\b∈toB f p:=by
 obtain⟨s',hs⟩:=h;obtain⟨h1,h2,h3,h4,h5⟩:=hs.way;have hl:=hs.len;rw[aW]at hl;refine⟨by rw[<-List.reverse_reverse O];exact List.pairwise_reverse.2 (h3.imp fun h=>Ne.symm h),fun b=>by rw[<-h2,List.mem_reverse],fun b hb=> ?_, ?_,fun i b hb hb0=> ?_⟩
 ·have h6:=(h1 b).2 ((h2 b).1 (List.mem_reverse.2 hb));rw[<-hl];exact(aD.1 h6).1
 ·rw[List.getLast?_reverse]at h5;rw[<-List.head?_eq_getElem?];exact h5
 have hi:i<O.length:=(aD.1 hb).1;have h6:O.reverse[O.length - 1 - i]? =some b:=by rw[List.getElem?_reverse (by omega),show O.length - 1 - (O.length - 1 - i)=i by omega];exact hb
 rcases h4 _ b h6 with h7|⟨j,p,h7,h8,h9⟩
 ·exact absurd h7 hb0
 have hj:j<O.length:=by have:=(aD.1 h8).1;rwa[List.length_reverse]at this
 rw[List.getElem?_reverse hj]at h8;exact⟨O.length - 1 - j,p,by omega,h8,h9⟩
theorem Cells.alloc{W:World}{v:Value}{g:Nat}{xs:List Int}(h:Cells W v g xs)(o:Obj):Cells (W.alloc o) v g xs:=h.later ((Below.refl _ _).alloc (aC _) o)
theorem Box.ne{W:World}{a b:Nat}{A B:Array Value}(hA:Box W a A)(hB:Box W b B)(o:Nat)(h:A[o]? ≠B[o]?):a≠b:=by intro e;subst e;exact h ((hA.cell o).symm.trans (hB.cell o))
theorem aJP{z:Value}{n:Nat}(h:0<n):(madeCells #[z] n)[0]? =some z:=by
 have h6:madeCells #[z] n=(List.replicate n z).toArray:=by rw[<-toList_madeCells_one]
 rw[h6];simp[h]
theorem Cells.ne{W:World}{v:Value}{g b:Nat}{xs:List Int}{A:Array Value}(h:Cells W v g xs)(hB:Box W b A)(hx:0<xs.length){u:Value}(hu:A[0]? =some u)(hn:∀x:Int,u≠.int .i64 x):g≠b:=by
 intro e;subst e;obtain⟨cap,A',e1,h1,h2,h3,h4⟩:=h.is;have h5:=h3.at 0 (h4 0 _ (aA hx));have h6:=hB.at 0 hu;rw[h5]at h6
 cases h6;exact hn _ rfl
end
end Go.Proofs.YtagabiidbbhhmaaGreat
