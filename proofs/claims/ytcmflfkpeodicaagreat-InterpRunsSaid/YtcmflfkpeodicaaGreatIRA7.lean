/- Part 7. -/
import Derived.Test.YtcmflfkpeodicaaGreatIRA6
namespace Go.Proofs.YtcmflfkpeodicaaGreat
set_option maxHeartbeats 6400000
set_option linter.all false
open Go.RowKit
structure SeenR (nb:Nat) (l:List Int) (S:List (Int × Value)):Prop where
 all:l.all (numB nb)=true
 mem:∀ y,y ∈ S.map (·.1) ↔ y ∈ l
 le:S.length <= l.length
 eq:S.length=l.length ↔ l.Nodup
theorem SeenR.nil {nb:Nat}:SeenR nb [] []:=⟨rfl,fun _=>Iff.rfl,aF _,by simp⟩
theorem SeenR.put {nb:Nat} {l:List Int} {S:List (Int × Value)} (h:SeenR nb l S) {b:Int} (hb:numB nb b=true) (v:Value):SeenR nb (l ++ [b]) (mput S b v):=by
 have hk:=sM (m:=S) (k:=b) (v:=v)
 have hl:(mput S b v).length=if (mget S b).isSome then S.length else S.length+1:=by
  have:=congrArg List.length hk
  rw [bD] at this
  rw [this];split <;> simp
 have hn:=h.eq
 have hle:=h.le
 have hnd:(l ++ [b]).Nodup ↔ l.Nodup/\b ∉ l:=by
  rw [cE]
  constructor
  ·rintro ⟨h1,_,h3⟩;exact ⟨h1,fun hm=>h3 b hm b (by simp) rfl⟩
  rintro ⟨h1,h2⟩;exact ⟨h1,by simp,fun x hx y hy e=>by simp at hy;subst hy;subst e;exact h2 hx⟩
 cases hg:mget S b with
 | none =>
  have hno:b ∉ l:=fun hm=>oY.1 hg ((h.mem b).2 hm)
  rw [hg] at hk hl
  simp only [Option.isSome_none,bL,if_false] at hk hl
  refine ⟨by rw [cX,h.all];simp [hb],fun y=>by rw [hk];simp [h.mem y],by rw [hl];simp;omega, ?_⟩
  rw [hl,hnd,aQ, <-hn];simp;intro _;exact hno
 | some u =>
  have hm1:b ∈ S.map (·.1):=aY.2 ⟨_,aAV hg,rfl⟩
  have hyes:b ∈ l:=(h.mem b).1 hm1
  rw [hg] at hk hl
  simp only [Option.isSome_some,if_true] at hk hl
  refine ⟨by rw [cX,h.all];simp [hb],fun y=>by rw [hk,h.mem y];simp;intro e;subst e;exact hyes,by rw [hl];simp;omega, ?_⟩
  rw [hl,hnd,aQ];simp [hyes];omega
theorem aD8 {np nb:Nat} {T:List (Int × Int)} {x:PhiD} (h:iR nb x=false):phiM np nb T x=none:=by unfold phiM;rw [h];rfl
theorem yX {w : World} {bc : Nat} {id typ : Int} {af av : Option Addr} {n m cf cv : Nat} (h : ((typ == 1 || typ == 2) && (n == m)) = false) :
    Calls Tryz.prog 185 #[.pointer (some ⟨bc, 0, none⟩), .agg #[.int .i64 id, .int .i64 typ, .slice af n cf, .slice av m cv]] w fun e w' => e = .returned (.bool false) ∧ Below w.heap.size w w' := by
  cases ht1 : (typ == 1) <;> cases ht2 : (typ == 2) <;> cases hl : ((n : Int) == (m : Int))
  all_goals
    first
      | (have hnm : n = m := by simp at hl; omega
         subst hnm
         rw [ht1, ht2] at h
         simp at h; done)
      | (clear h
         go_enter Tryz.func185, Tryz.ntmps185
         go_upto_region 1 with (fail)
         have hA_ := (Below.refl w.heap.size w).alloc (aF _) (.cells #[.int .i64 id, .int .i64 typ, .slice af n cf, .slice av m cv] 113)
         have HW := h! hA_
         clear hA_
         have B3 := h! (Box.new w #[.int .i64 id, .int .i64 typ, .slice af n cf, .slice av m cv] 113)
         generalize w.alloc (.cells #[.int .i64 id, .int .i64 typ, .slice af n cf, .slice av m cv] 113) = wv at *
         obtain ⟨lB3, cB3, fB3⟩ := B3.out
         go_wp2
         all_goals (go_ret; exact ⟨rfl, HW.out⟩))
theorem aD9 {w:World} {bc bm:Nat} {ap ab:Option Addr} {np cp nb cb:Nat} {ar ce:Int} {T:List (Int × Int)} {id:Int} {src:List Int} {n:Nat} {af av:Option Addr} {cf cv:Nat}
  (hb:Box w bc (chk (.slice ap np cp) (.slice ab nb cb) ar ce bm)) (hm:IMap w bm (encT T)) (hn:n=src.length) (hs:Ints w (.slice af n cf) src) :
  Calls Tryz.prog 185 #[.pointer (some ⟨bc,0,none⟩),.agg #[.int .i64 id,.int .i64 1,.slice af n cf,.slice av n cv]] w
   (iA (if src.all (numB nb) && decide src.Nodup then iX np T id 1 else none) bm w):=by
 have HBC:=h! hb
 have HM:=h! hm
 have HLB:=h! hb.lt
 have HLM:=h! hm.lt
 obtain ⟨a,cap,b,o,hav,hc,hcm,ha,hx⟩:=hs.parts
 rw [<-hn] at hav hc ha hx
 cases hav
 have HA:=h! ha
 have HX:=h! hx
 have HN:=h! hn
 have HS:=h! hs
 obtain ⟨r,hr⟩ : ∃ r,r=(if src.all (numB nb) && decide src.Nodup then iX np T id 1 else none):=⟨_,rfl⟩
 rw [<-hr]
 have HR:=h! hr
 clear hb hm hs ha hx hn hr
 go_enter Tryz.func185,Tryz.ntmps185
 go_upto_region 1 with (fail)
 have hA_:=(Below.refl w.heap.size w).alloc (aF _) (.cells #[.int .i64 id,.int .i64 1,.slice af n cf,.slice av n cv] 113)
 have HW:=h! hA_
 clear hA_
 have B3:=h! (Box.new w #[.int .i64 id,.int .i64 1,.slice af n cf,.slice av n cv] 113)
 generalize w.alloc (.cells #[.int .i64 id,.int .i64 1,.slice af n cf,.slice av n cv] 113)=wv at *
 obtain ⟨lB3,cB3,fB3⟩:=B3.out
 have hmm:=@run_makeMap Tryz.prog
 go_upto_region 4 with (fail)
 clear hmm
 have HI0:=h! (IMap.new wv)
 clear lB3 cB3 fB3
 have HL3:=h! B3.out.lt
 replace B3:=h! (B3.out.alloc (.map #[] 0))
 have HLV:=h! HW.out.size
 replace HW:=h! (HW.out.alloc HW.out.size (.map #[] 0))
 generalize wv.alloc _=wm at *
 obtain ⟨lB3,cB3,fB3⟩:=B3.out
 go_wp2_with fail
 go_loopw [29] (fun i wr => ∃ (j:Nat) (S:List (Int × Value)),j <= n/\i = .int .i64 j/\SeenR nb (src.take j) S/\IMap wr wv.heap.size S/\Below w.heap.size w wr/\Box wr w.heap.size #[.int .i64 id,.int .i64 1,.slice af n cf,.slice av n cv]) (fun i _=>n - (intOf i).toNat)
 case atStart=>exact ⟨0,[],aP _,rfl,SeenR.nil,HI0.out,HW.out,B3.out⟩
 case round =>
  obtain ⟨j,S,hj,rfl,hS,hI,hW,hB3⟩:=hrel
  clear lB3 cB3 fB3
  have HSE:=h! hS
  have HI:=h! hI
  replace HW:=h! hW
  replace B3:=h! hB3
  have HBR:=h! (HBC.out.later hW)
  have HMR:=h! (HM.out.later hW)
  have HLI:=h! hI.lt
  clear hS hI hW hB3 HI0
  by_cases hlt:j < n
  ·have hne:0 < n:=by omega
   obtain ⟨rfl,hbw⟩:=HA.out hne
   have hjx:src[j]? = some (src.getD j 0):=by rw [aH,aB (by have:=HN.out;omega)];rfl
   have h0:=(HW.out.cell hbw).trans (HX.out j hlt)
   have HTS:=h! (show src.take (j+1)=src.take j ++ [src.getD j 0] by rw [bU,hjx];rfl)
   have HMEM:=h! (aG hjx)
   clear hjx
   generalize src.getD j 0=y at *
   cases hy:numB nb y
   ·have HY:=h! hy
    clear hy
    go_wp2_with (go_at_call 214;refine (sL HBR.out y false HY.out).mono ?_;rintro e w1 ⟨rfl,rfl⟩)
    go_ret
    refine iA.no ?_ (Turn.of_below HW.out _)
    rw [HR.out,show src.all (numB nb)=false by rw [bZ];exact ⟨y,HMEM.out,by rw [HY.out];simp⟩]
    rfl
   have HY:=h! hy
   clear hy
   go_wp2_with (first
    | (go_at_call 214;refine (sL HBR.out y true HY.out).mono ?_;rintro e w1 ⟨rfl,rfl⟩)
    | (at_mapUpdate;refine fC (q:=.i64) (b:=wv.heap.size) (mm:=S) (y:=y) rfl _ _ _ _ (.inl rfl) Tryz.underlying263 Tryz.underlying3 rfl HI.out rfl ?_;intro w2 hm2 hz2 ht2;have HP:=h! hm2;have HT:=h! ht2;clear hm2 hz2 ht2))
   have hbel:Below w.heap.size wr w2:=HT.out.below HW.out.size (fun x hx=>by simp at hx;subst hx;exact HLV.out)
   have hne3:w.heap.size ∉ [wv.heap.size]:=by simp;have:=HL3.out;omega
   go_roundw
   case rel=>exact ⟨j+1,_,hlt,by go_num,by rw [HTS.out];exact HSE.out.put HY.out _,HP.out,HW.out.trans hbel,B3.out.turn HT.out hne3⟩
   simp [intOf];omega
  obtain rfl:j=n:=by omega
  have HT0:src.take j=src:=aI (by have:=HN.out;omega)
  rw [HT0] at HSE
  have HSA:=h! HSE.out.all
  have HEQ:Hid (decide src.Nodup=decide ((S.length:Int)=j)):=h! (by have:=HSE.out.eq;rw [<-HN.out] at this;rw [cC];simp only [decide_eq_true_eq];rw [<-this];omega)
  have HR2:Hid (r=if decide ((S.length:Int)=j) then iX np T id 1 else none):=h! (by rw [HR.out,HSA.out,HEQ.out];rfl)
  clear HT0
  have lS:S.length <= 17592186044416:=by
   have:=HSE.out.le;have:=HS.out.1.big;omega
  cases hq:((S.length:Int) == (j:Int))
  ·
   obtain ⟨lB3,cB3,fB3⟩:=B3.out
   go_wp2_with (at_len;have _t:=HI;refine jK rfl _ 263 rfl Tryz.underlying263 (b:=wv.heap.size) (mm:=S) rfl HI.out ?_;clear HI)
   go_ret
   exact iA.no (by rw [HR2.out,if_neg];simpa using hq) (Turn.of_below HW.out _)
  have HQ:=h! hq
  obtain ⟨lB3,cB3,fB3⟩:=B3.out
  go_wp2_with (at_len;have _t:=HI;refine jK rfl _ 263 rfl Tryz.underlying263 (b:=wv.heap.size) (mm:=S) rfl HI.out ?_;clear HI)
  refine (vK HBR.out HMR.out id 1).mono ?_
  rintro e w3 ⟨rfl,h3,t3⟩
  have H3:=h! h3
  have T3:=h! t3
  clear h3 t3
  go_wp2
  go_ret
  have e:r=iX np T id 1:=by rw [HR2.out,if_pos];simpa using HQ.out
  rw [e]
  exact ⟨rfl,H3.out,(Turn.of_below HW.out _).trans (by first | exact T3.out)⟩
theorem aEA {w:World} {bc bm:Nat} {ap ab:Option Addr} {np cp nb cb:Nat} {ar ce:Int} {T:List (Int × Int)} {id:Int} {src:List Int} {n:Nat} {af av:Option Addr} {cf cv:Nat}
  (hb:Box w bc (chk (.slice ap np cp) (.slice ab nb cb) ar ce bm)) (hm:IMap w bm (encT T)) (hn:n=src.length) (hs:Ints w (.slice af n cf) src) :
  Calls Tryz.prog 185 #[.pointer (some ⟨bc,0,none⟩),.agg #[.int .i64 id,.int .i64 2,.slice af n cf,.slice av n cv]] w
   (iA (if src.all (numB nb) && decide src.Nodup then iX np T id 2 else none) bm w):=by
 have HBC:=h! hb
 have HM:=h! hm
 have HLB:=h! hb.lt
 have HLM:=h! hm.lt
 obtain ⟨a,cap,b,o,hav,hc,hcm,ha,hx⟩:=hs.parts
 rw [<-hn] at hav hc ha hx
 cases hav
 have HA:=h! ha
 have HX:=h! hx
 have HN:=h! hn
 have HS:=h! hs
 obtain ⟨r,hr⟩ : ∃ r,r=(if src.all (numB nb) && decide src.Nodup then iX np T id 2 else none):=⟨_,rfl⟩
 rw [<-hr]
 have HR:=h! hr
 clear hb hm hs ha hx hn hr
 go_enter Tryz.func185,Tryz.ntmps185
 go_upto_region 1 with (fail)
 have hA_:=(Below.refl w.heap.size w).alloc (aF _) (.cells #[.int .i64 id,.int .i64 2,.slice af n cf,.slice av n cv] 113)
 have HW:=h! hA_
 clear hA_
 have B3:=h! (Box.new w #[.int .i64 id,.int .i64 2,.slice af n cf,.slice av n cv] 113)
 generalize w.alloc (.cells #[.int .i64 id,.int .i64 2,.slice af n cf,.slice av n cv] 113)=wv at *
 obtain ⟨lB3,cB3,fB3⟩:=B3.out
 have hmm:=@run_makeMap Tryz.prog
 go_upto_region 4 with (fail)
 clear hmm
 have HI0:=h! (IMap.new wv)
 clear lB3 cB3 fB3
 have HL3:=h! B3.out.lt
 replace B3:=h! (B3.out.alloc (.map #[] 0))
 have HLV:=h! HW.out.size
 replace HW:=h! (HW.out.alloc HW.out.size (.map #[] 0))
 generalize wv.alloc _=wm at *
 obtain ⟨lB3,cB3,fB3⟩:=B3.out
 go_wp2_with fail
 go_loopw [29] (fun i wr => ∃ (j:Nat) (S:List (Int × Value)),j <= n/\i = .int .i64 j/\SeenR nb (src.take j) S/\IMap wr wv.heap.size S/\Below w.heap.size w wr/\Box wr w.heap.size #[.int .i64 id,.int .i64 2,.slice af n cf,.slice av n cv]) (fun i _=>n - (intOf i).toNat)
 case atStart=>exact ⟨0,[],aP _,rfl,SeenR.nil,HI0.out,HW.out,B3.out⟩
 case round =>
  obtain ⟨j,S,hj,rfl,hS,hI,hW,hB3⟩:=hrel
  clear lB3 cB3 fB3
  have HSE:=h! hS
  have HI:=h! hI
  replace HW:=h! hW
  replace B3:=h! hB3
  have HBR:=h! (HBC.out.later hW)
  have HMR:=h! (HM.out.later hW)
  have HLI:=h! hI.lt
  clear hS hI hW hB3 HI0
  by_cases hlt:j < n
  ·have hne:0 < n:=by omega
   obtain ⟨rfl,hbw⟩:=HA.out hne
   have hjx:src[j]? = some (src.getD j 0):=by rw [aH,aB (by have:=HN.out;omega)];rfl
   have h0:=(HW.out.cell hbw).trans (HX.out j hlt)
   have HTS:=h! (show src.take (j+1)=src.take j ++ [src.getD j 0] by rw [bU,hjx];rfl)
   have HMEM:=h! (aG hjx)
   clear hjx
   generalize src.getD j 0=y at *
   cases hy:numB nb y
   ·have HY:=h! hy
    clear hy
    go_wp2_with (go_at_call 214;refine (sL HBR.out y false HY.out).mono ?_;rintro e w1 ⟨rfl,rfl⟩)
    go_ret
    refine iA.no ?_ (Turn.of_below HW.out _)
    rw [HR.out,show src.all (numB nb)=false by rw [bZ];exact ⟨y,HMEM.out,by rw [HY.out];simp⟩]
    rfl
   have HY:=h! hy
   clear hy
   go_wp2_with (first
    | (go_at_call 214;refine (sL HBR.out y true HY.out).mono ?_;rintro e w1 ⟨rfl,rfl⟩)
    | (at_mapUpdate;refine fC (q:=.i64) (b:=wv.heap.size) (mm:=S) (y:=y) rfl _ _ _ _ (.inl rfl) Tryz.underlying263 Tryz.underlying3 rfl HI.out rfl ?_;intro w2 hm2 hz2 ht2;have HP:=h! hm2;have HT:=h! ht2;clear hm2 hz2 ht2))
   have hbel:Below w.heap.size wr w2:=HT.out.below HW.out.size (fun x hx=>by simp at hx;subst hx;exact HLV.out)
   have hne3:w.heap.size ∉ [wv.heap.size]:=by simp;have:=HL3.out;omega
   go_roundw
   case rel=>exact ⟨j+1,_,hlt,by go_num,by rw [HTS.out];exact HSE.out.put HY.out _,HP.out,HW.out.trans hbel,B3.out.turn HT.out hne3⟩
   simp [intOf];omega
  obtain rfl:j=n:=by omega
  have HT0:src.take j=src:=aI (by have:=HN.out;omega)
  rw [HT0] at HSE
  have HSA:=h! HSE.out.all
  have HEQ:Hid (decide src.Nodup=decide ((S.length:Int)=j)):=h! (by have:=HSE.out.eq;rw [<-HN.out] at this;rw [cC];simp only [decide_eq_true_eq];rw [<-this];omega)
  have HR2:Hid (r=if decide ((S.length:Int)=j) then iX np T id 2 else none):=h! (by rw [HR.out,HSA.out,HEQ.out];rfl)
  clear HT0
  have lS:S.length <= 17592186044416:=by
   have:=HSE.out.le;have:=HS.out.1.big;omega
  cases hq:((S.length:Int) == (j:Int))
  ·
   obtain ⟨lB3,cB3,fB3⟩:=B3.out
   go_wp2_with (at_len;have _t:=HI;refine jK rfl _ 263 rfl Tryz.underlying263 (b:=wv.heap.size) (mm:=S) rfl HI.out ?_;clear HI)
   go_ret
   exact iA.no (by rw [HR2.out,if_neg];simpa using hq) (Turn.of_below HW.out _)
  have HQ:=h! hq
  obtain ⟨lB3,cB3,fB3⟩:=B3.out
  go_wp2_with (at_len;have _t:=HI;refine jK rfl _ 263 rfl Tryz.underlying263 (b:=wv.heap.size) (mm:=S) rfl HI.out ?_;clear HI)
  refine (vK HBR.out HMR.out id 2).mono ?_
  rintro e w3 ⟨rfl,h3,t3⟩
  have H3:=h! h3
  have T3:=h! t3
  clear h3 t3
  go_wp2
  go_ret
  have e:r=iX np T id 2:=by rw [HR2.out,if_pos];simpa using HQ.out
  rw [e]
  exact ⟨rfl,H3.out,(Turn.of_below HW.out _).trans (by first | exact T3.out)⟩
theorem aF9 {w:World} {bc bm:Nat} {ap ab:Option Addr} {np cp nb cb:Nat} {ar ce:Int} {T:List (Int × Int)} {x:PhiD} {af av:Option Addr} {cf cv:Nat}
  (hb:Box w bc (chk (.slice ap np cp) (.slice ab nb cb) ar ce bm)) (hm:IMap w bm (encT T)) (hs:Ints w (.slice af x.src.length cf) x.src) :
  Calls Tryz.prog 185 #[.pointer (some ⟨bc,0,none⟩),.agg (phiA x af av cf cv)] w (iA (phiM np nb T x) bm w):=by
 cases hg:((x.typ == 1 || x.typ == 2) && (x.src.length == x.vals.length))
 ·refine (yX hg).mono fun e w' ⟨he,hw⟩ => ?_
  subst he
  exact iA.no (aD8 (by unfold iR;rw [hg];rfl)) (Turn.of_below hw _)
 ·have hok:iR nb x=(x.src.all (numB nb) && decide x.src.Nodup):=by unfold iR;rw [hg];rfl
  have hM:phiM np nb T x=if x.src.all (numB nb) && decide x.src.Nodup then iX np T x.id x.typ else none:=by unfold phiM;rw [hok]
  rw [hM]
  simp only [aN,bQ,beq_iff_eq] at hg
  unfold phiA
  rw [<-hg.2]
  rcases hg.1 with h | h
  ·rw [h];exact aD9 hb hm rfl hs
  rw [h];exact aEA hb hm rfl hs
end Go.Proofs.YtcmflfkpeodicaaGreat
