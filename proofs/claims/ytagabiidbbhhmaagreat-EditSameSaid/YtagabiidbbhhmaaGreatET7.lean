/- Part 7. -/
import Derived.Test.YtagabiidbbhhmaaGreatET6
namespace Go.Proofs.YtagabiidbbhhmaaGreat
set_option maxHeartbeats 6400000
set_option linter.all false
set_option maxRecDepth 100000
open Go.RowKit
structure SeenR(nb:Nat)(l:List Int)(S:List (Int×Value)):Prop where
 all:l.all (numB nb)=true
 mem:∀y,y∈S.map (·.1)↔y∈l
 le:S.length<=l.length
 eq:S.length=l.length↔l.Nodup
theorem SeenR.nil{nb:Nat}:SeenR nb [] []:=⟨rfl,fun _=>Iff.rfl,aC _,by simp⟩
theorem SeenR.put{nb:Nat}{l:List Int}{S:List (Int×Value)}(h:SeenR nb l S){b:Int}(hb:numB nb b=true)(v:Value):SeenR nb (l++[b]) (mput S b v):=by
 have hk:=vJ (m:=S) (k:=b) (v:=v);have hl:(mput S b v).length=if (mget S b).isSome then S.length else S.length+1:=by have:=congrArg List.length hk;rw[aZ]at this;rw[this];split<;>simp
 have hn:=h.eq;have hle:=h.le;have ab:(l++[b]).Nodup↔l.Nodup/\b∉l:=by
  rw[cN];constructor
  ·rintro⟨h1,_,h3⟩;exact⟨h1,fun hm=>h3 b hm b (by simp) rfl⟩
  rintro⟨h1,h2⟩;exact⟨h1,by simp,fun x hx y hy e=>by simp at hy;subst hy;subst e;exact h2 hx⟩
 cases hg:mget S b with
 | none=>
  have ad:b∉l:=fun hm=>rH.1 hg ((h.mem b).2 hm)
  rw[hg]at hk hl
  simp only[Option.isSome_none,bV,if_false]at hk hl
  refine⟨by rw[dO,h.all];simp[hb],fun y=>by rw[hk];simp[h.mem y],by rw[hl];simp;omega, ?_⟩
  rw[hl,ab,aO,<-hn];simp;intro _;exact ad
 | some u=>
  have ac:b∈S.map (·.1):=aN.2 ⟨_,aDP hg,rfl⟩
  have aa:b∈l:=(h.mem b).1 ac
  rw[hg]at hk hl
  simp only[Option.isSome_some,if_true]at hk hl
  refine⟨by rw[dO,h.all];simp[hb],fun y=>by rw[hk,h.mem y];simp;intro e;subst e;exact aa,by rw[hl];simp;omega, ?_⟩
  rw[hl,ab,aO];simp[aa];omega
theorem aJ0{np nb:Nat}{T:List (Int×Int)}{x:PhiD}(h:jR nb x=false):phiM np nb T x=none:=by unfold phiM;rw[h];rfl
theorem aEX{w:World}{bc:Nat}{id typ:Int}{af av:Option Addr}{n m cf cv:Nat}(h:((typ == 1||typ == 2)&&(n == m))=false):
    Calls Tryz.prog 180 #[.pointer (some ⟨bc,0,none⟩),.agg #[.int .i64 id,.int .i64 typ,.slice af n cf,.slice av m cv]] w fun e w'=>e=.returned (.bool false)∧Below w.heap.size w w':=by
  cases ht1:(typ == 1)<;>cases ht2:(typ == 2)<;>cases hl:((n:Int) == (m:Int));all_goals
    first
      | (have hnm:n=m:=by simp at hl;omega
         subst hnm
         rw[ht1,ht2]at h
         simp at h;done)
      | (clear h
         go_enter Tryz.func180,Tryz.ntmps180
         go_upto_region 1 with(fail)
         have aa:=(Below.refl w.heap.size w).alloc (aC _) (.cells #[.int .i64 id,.int .i64 typ,.slice af n cf,.slice av m cv] 78)
         have HW:=h! aa
         clear aa
         have B3:=h! (Box.new w #[.int .i64 id,.int .i64 typ,.slice af n cf,.slice av m cv] 78)
         generalize w.alloc (.cells #[.int .i64 id,.int .i64 typ,.slice af n cf,.slice av m cv] 78)=wv at*
         obtain⟨lB3,cB3,fB3⟩:=B3.out
         go_wp2
         all_goals (go_ret;exact⟨rfl,HW.out⟩))
theorem aJ1{w:World}{bc bm:Nat}{ap ab:Option Addr}{np cp nb cb:Nat}{ar ce:Int}{T:List (Int×Int)}{id:Int}{src:List Int}{n:Nat}{af av:Option Addr}{cf cv:Nat}
  (hb:Box w bc (chk (.slice ap np cp) (.slice ab nb cb) ar ce bm)) (hm:IMap w bm (encT T)) (hn:n=src.length) (hs:Ints w (.slice af n cf) src):
  Calls Tryz.prog 180 #[.pointer (some ⟨bc,0,none⟩),.agg #[.int .i64 id,.int .i64 1,.slice af n cf,.slice av n cv]] w
   (kB (if src.all (numB nb)&&decide src.Nodup then kW np T id 1 else none) bm w):=by
 have bj:=h! hb;have HM:=h! hm;have HLB:=h! hb.lt;have HLM:=h! hm.lt;obtain⟨a,cap,b,o,aq,hc,hcm,ha,hx⟩:=hs.parts;rw[<-hn]at aq hc ha hx
 cases aq;have HA:=h! ha;have HX:=h! hx;have HN:=h! hn;have HS:=h! hs;obtain⟨r,hr⟩:∃r,r=(if src.all (numB nb)&&decide src.Nodup then kW np T id 1 else none):=⟨_,rfl⟩;rw[<-hr];have HR:=h! hr;clear hb hm hs ha hx hn hr;go_enter Tryz.func180,Tryz.ntmps180;go_upto_region 1 with(fail);have aw:=(Below.refl w.heap.size w).alloc (aC _) (.cells #[.int .i64 id,.int .i64 1,.slice af n cf,.slice av n cv] 78);have HW:=h! aw;clear aw;have B3:=h! (Box.new w #[.int .i64 id,.int .i64 1,.slice af n cf,.slice av n cv] 78);generalize w.alloc (.cells #[.int .i64 id,.int .i64 1,.slice af n cf,.slice av n cv] 78)=wv at*;obtain⟨ac,ad,ae⟩:=B3.out;have az:=@run_makeMap Tryz.prog;go_upto_region 4 with(fail);clear az;have ay:=h! (IMap.new wv);clear ac ad ae;have bk:=h! B3.lt;replace B3:=h! (B3.alloc (.map #[] 0));have bd:=h! HW.size;replace HW:=h! (HW.alloc HW.size (.map #[] 0));generalize wv.alloc _=wm at*;obtain⟨ac,ad,ae⟩:=B3.out;go_wp2_with fail;go_loopw [29] (fun i wr=>∃(j:Nat) (S:List (Int×Value)),j<=n/\i=.int .i64 j/\SeenR nb (src.take j) S/\IMap wr wv.heap.size S/\Below w.heap.size w wr/\Box wr w.heap.size #[.int .i64 id,.int .i64 1,.slice af n cf,.slice av n cv]) (fun i _=>n - (intOf i).toNat)
 case atStart=>exact⟨0,[],aL _,rfl,SeenR.nil,ay.out,HW.out,B3.out⟩
 case round=>
  obtain⟨j,S,hj,rfl,hS,hI,hW,am⟩:=hrel;clear ac ad ae;have aa:=h! hS;have HI:=h! hI;replace HW:=h! hW;replace B3:=h! am;have ag:=h! (bj.later hW);have bf:=h! (HM.later hW);have HLI:=h! hI.lt;clear hS hI hW am ay;by_cases hlt:j<n
  ·have bb:0<n:=by omega
   obtain⟨rfl,be⟩:=HA.out bb;have ai:src[j]? =some (src.getD j 0):=by rw[aH,aA (by have:=HN.out;omega)];rfl
   have h0:=(HW.cell be).trans (HX j hlt);have ba:=h! (show src.take (j+1)=src.take j++[src.getD j 0] by rw[cX,ai];rfl);have ah:=h! (aG ai);clear ai;generalize src.getD j 0=y at*
   cases hy:numB nb y
   ·have HY:=h! hy;clear hy;go_wp2_with (go_at_call 205;refine(wJ ag.out y false HY.out).mono ?_;rintro e w1 ⟨rfl,rfl⟩);go_ret;refine kB.no ?_ (Turn.of_below HW.out _);rw[HR.out,show src.all (numB nb)=false by rw[cW];exact⟨y,ah.out,by rw[HY.out];simp⟩];rfl
   have HY:=h! hy;clear hy;go_wp2_with (first
    | (go_at_call 205;refine(wJ ag.out y true HY.out).mono ?_;rintro e w1 ⟨rfl,rfl⟩)
    | (at_mapUpdate;refine gC (q:=.i64) (b:=wv.heap.size) (mm:=S) (y:=y) rfl _ _ _ _ (.inl rfl) Tryz.underlying254 Tryz.underlying3 rfl HI.out rfl ?_;intro w2 al bh an;have HP:=h! al;have HT:=h! an;clear al bh an))
   have aj:Below w.heap.size wr w2:=HT.below HW.size (fun x hx=>by simp at hx;subst hx;exact bd);have ak:w.heap.size∉[wv.heap.size]:=by simp;have:=bk.out;omega
   go_roundw
   case rel=>exact⟨j+1,_,hlt,by go_num,by rw[ba.out];exact aa.put HY.out _,HP.out,HW.trans aj,B3.turn HT.out ak⟩
   simp[intOf];omega
  obtain rfl:j=n:=by omega
  have ax:src.take j=src:=aI (by have:=HN.out;omega);rw[ax]at aa;have bi:=h! aa.all;have bg:Hid (decide src.Nodup=decide ((S.length:Int)=j)):=h! (by have:=aa.eq;rw[<-HN.out]at this;rw[cH];simp only[decide_eq_true_eq];rw[<-this];omega);have ao:Hid (r=if decide ((S.length:Int)=j) then kW np T id 1 else none):=h! (by rw[HR.out,bi.out,bg.out];rfl);clear ax;have lS:S.length<=17592186044416:=by have:=aa.le;have:=HS.1.big;omega
  cases hq:((S.length:Int) == (j:Int))
  ·
   obtain⟨ac,ad,ae⟩:=B3.out;go_wp2_with (at_len;have _t:=HI;refine lT rfl _ 254 rfl Tryz.underlying254 (b:=wv.heap.size) (mm:=S) rfl HI.out ?_;clear HI);go_ret;exact kB.no (by rw[ao.out,if_neg];simpa using hq) (Turn.of_below HW.out _)
  have HQ:=h! hq;obtain⟨ac,ad,ae⟩:=B3.out;go_wp2_with (at_len;have _t:=HI;refine lT rfl _ 254 rfl Tryz.underlying254 (b:=wv.heap.size) (mm:=S) rfl HI.out ?_;clear HI);refine(zM ag.out bf.out id 1).mono ?_;rintro e w3 ⟨rfl,h3,t3⟩;have H3:=h! h3;have T3:=h! t3;clear h3 t3;go_wp2;go_ret;have e:r=kW np T id 1:=by rw[ao.out,if_pos];simpa using HQ.out
  rw[e];exact⟨rfl,H3.out,(Turn.of_below HW.out _).trans (by first|exact T3)⟩
theorem aJ2{w:World}{bc bm:Nat}{ap ab:Option Addr}{np cp nb cb:Nat}{ar ce:Int}{T:List (Int×Int)}{id:Int}{src:List Int}{n:Nat}{af av:Option Addr}{cf cv:Nat}
  (hb:Box w bc (chk (.slice ap np cp) (.slice ab nb cb) ar ce bm)) (hm:IMap w bm (encT T)) (hn:n=src.length) (hs:Ints w (.slice af n cf) src):
  Calls Tryz.prog 180 #[.pointer (some ⟨bc,0,none⟩),.agg #[.int .i64 id,.int .i64 2,.slice af n cf,.slice av n cv]] w
   (kB (if src.all (numB nb)&&decide src.Nodup then kW np T id 2 else none) bm w):=by
 have bj:=h! hb;have HM:=h! hm;have HLB:=h! hb.lt;have HLM:=h! hm.lt;obtain⟨a,cap,b,o,aq,hc,hcm,ha,hx⟩:=hs.parts;rw[<-hn]at aq hc ha hx
 cases aq;have HA:=h! ha;have HX:=h! hx;have HN:=h! hn;have HS:=h! hs;obtain⟨r,hr⟩:∃r,r=(if src.all (numB nb)&&decide src.Nodup then kW np T id 2 else none):=⟨_,rfl⟩;rw[<-hr];have HR:=h! hr;clear hb hm hs ha hx hn hr;go_enter Tryz.func180,Tryz.ntmps180;go_upto_region 1 with(fail);have aw:=(Below.refl w.heap.size w).alloc (aC _) (.cells #[.int .i64 id,.int .i64 2,.slice af n cf,.slice av n cv] 78);have HW:=h! aw;clear aw;have B3:=h! (Box.new w #[.int .i64 id,.int .i64 2,.slice af n cf,.slice av n cv] 78);generalize w.alloc (.cells #[.int .i64 id,.int .i64 2,.slice af n cf,.slice av n cv] 78)=wv at*;obtain⟨ac,ad,ae⟩:=B3.out;have az:=@run_makeMap Tryz.prog;go_upto_region 4 with(fail);clear az;have ay:=h! (IMap.new wv);clear ac ad ae;have bk:=h! B3.lt;replace B3:=h! (B3.alloc (.map #[] 0));have bd:=h! HW.size;replace HW:=h! (HW.alloc HW.size (.map #[] 0));generalize wv.alloc _=wm at*;obtain⟨ac,ad,ae⟩:=B3.out;go_wp2_with fail;go_loopw [29] (fun i wr=>∃(j:Nat) (S:List (Int×Value)),j<=n/\i=.int .i64 j/\SeenR nb (src.take j) S/\IMap wr wv.heap.size S/\Below w.heap.size w wr/\Box wr w.heap.size #[.int .i64 id,.int .i64 2,.slice af n cf,.slice av n cv]) (fun i _=>n - (intOf i).toNat)
 case atStart=>exact⟨0,[],aL _,rfl,SeenR.nil,ay.out,HW.out,B3.out⟩
 case round=>
  obtain⟨j,S,hj,rfl,hS,hI,hW,am⟩:=hrel;clear ac ad ae;have aa:=h! hS;have HI:=h! hI;replace HW:=h! hW;replace B3:=h! am;have ag:=h! (bj.later hW);have bf:=h! (HM.later hW);have HLI:=h! hI.lt;clear hS hI hW am ay;by_cases hlt:j<n
  ·have bb:0<n:=by omega
   obtain⟨rfl,be⟩:=HA.out bb;have ai:src[j]? =some (src.getD j 0):=by rw[aH,aA (by have:=HN.out;omega)];rfl
   have h0:=(HW.cell be).trans (HX j hlt);have ba:=h! (show src.take (j+1)=src.take j++[src.getD j 0] by rw[cX,ai];rfl);have ah:=h! (aG ai);clear ai;generalize src.getD j 0=y at*
   cases hy:numB nb y
   ·have HY:=h! hy;clear hy;go_wp2_with (go_at_call 205;refine(wJ ag.out y false HY.out).mono ?_;rintro e w1 ⟨rfl,rfl⟩);go_ret;refine kB.no ?_ (Turn.of_below HW.out _);rw[HR.out,show src.all (numB nb)=false by rw[cW];exact⟨y,ah.out,by rw[HY.out];simp⟩];rfl
   have HY:=h! hy;clear hy;go_wp2_with (first
    | (go_at_call 205;refine(wJ ag.out y true HY.out).mono ?_;rintro e w1 ⟨rfl,rfl⟩)
    | (at_mapUpdate;refine gC (q:=.i64) (b:=wv.heap.size) (mm:=S) (y:=y) rfl _ _ _ _ (.inl rfl) Tryz.underlying254 Tryz.underlying3 rfl HI.out rfl ?_;intro w2 al bh an;have HP:=h! al;have HT:=h! an;clear al bh an))
   have aj:Below w.heap.size wr w2:=HT.below HW.size (fun x hx=>by simp at hx;subst hx;exact bd);have ak:w.heap.size∉[wv.heap.size]:=by simp;have:=bk.out;omega
   go_roundw
   case rel=>exact⟨j+1,_,hlt,by go_num,by rw[ba.out];exact aa.put HY.out _,HP.out,HW.trans aj,B3.turn HT.out ak⟩
   simp[intOf];omega
  obtain rfl:j=n:=by omega
  have ax:src.take j=src:=aI (by have:=HN.out;omega);rw[ax]at aa;have bi:=h! aa.all;have bg:Hid (decide src.Nodup=decide ((S.length:Int)=j)):=h! (by have:=aa.eq;rw[<-HN.out]at this;rw[cH];simp only[decide_eq_true_eq];rw[<-this];omega);have ao:Hid (r=if decide ((S.length:Int)=j) then kW np T id 2 else none):=h! (by rw[HR.out,bi.out,bg.out];rfl);clear ax;have lS:S.length<=17592186044416:=by have:=aa.le;have:=HS.1.big;omega
  cases hq:((S.length:Int) == (j:Int))
  ·
   obtain⟨ac,ad,ae⟩:=B3.out;go_wp2_with (at_len;have _t:=HI;refine lT rfl _ 254 rfl Tryz.underlying254 (b:=wv.heap.size) (mm:=S) rfl HI.out ?_;clear HI);go_ret;exact kB.no (by rw[ao.out,if_neg];simpa using hq) (Turn.of_below HW.out _)
  have HQ:=h! hq;obtain⟨ac,ad,ae⟩:=B3.out;go_wp2_with (at_len;have _t:=HI;refine lT rfl _ 254 rfl Tryz.underlying254 (b:=wv.heap.size) (mm:=S) rfl HI.out ?_;clear HI);refine(zM ag.out bf.out id 2).mono ?_;rintro e w3 ⟨rfl,h3,t3⟩;have H3:=h! h3;have T3:=h! t3;clear h3 t3;go_wp2;go_ret;have e:r=kW np T id 2:=by rw[ao.out,if_pos];simpa using HQ.out
  rw[e];exact⟨rfl,H3.out,(Turn.of_below HW.out _).trans (by first|exact T3)⟩
theorem aL8{w:World}{bc bm:Nat}{ap ab:Option Addr}{np cp nb cb:Nat}{ar ce:Int}{T:List (Int×Int)}{x:PhiD}{af av:Option Addr}{cf cv:Nat}
  (hb:Box w bc (chk (.slice ap np cp) (.slice ab nb cb) ar ce bm)) (hm:IMap w bm (encT T)) (hs:Ints w (.slice af x.src.length cf) x.src):
  Calls Tryz.prog 180 #[.pointer (some ⟨bc,0,none⟩),.agg (phiA x af av cf cv)] w (kB (phiM np nb T x) bm w):=by
 cases hg:((x.typ == 1||x.typ == 2)&&(x.src.length == x.vals.length))
 ·refine(aEX hg).mono fun e w' ⟨he,hw⟩=> ?_;subst he;exact kB.no (aJ0 (by unfold jR;rw[hg];rfl)) (Turn.of_below hw _)
 ·have aa:jR nb x=(x.src.all (numB nb)&&decide x.src.Nodup):=by unfold jR;rw[hg];rfl
  have hM:phiM np nb T x=if x.src.all (numB nb)&&decide x.src.Nodup then kW np T x.id x.typ else none:=by unfold phiM;rw[aa]
  rw[hM];simp only[aK,cR,beq_iff_eq]at hg;unfold phiA;rw[<-hg.2];rcases hg.1 with h|h
  ·rw[h];exact aJ1 hb hm rfl hs
  rw[h];exact aJ2 hb hm rfl hs
end Go.Proofs.YtagabiidbbhhmaaGreat
