/- What the claim needs,part 7. -/
import Derived.Test.YtgmhnepmkaonaaaGreatPB6
namespace Go.Proofs.YtgmhnepmkaonaaaGreat
set_option linter.unusedSimpArgs false
set_option linter.unusedVariables false
open Go.RowKit
structure SeenR (nb:Nat) (l:List Int) (S:List (Int × Value)):Prop where
 all:l.all (numB nb)=true
 mem:∀ y,y ∈ S.map (·.1) ↔ y ∈ l
 le:S.length <= l.length
 eq:S.length=l.length ↔ l.Nodup
theorem SeenR.nil {nb:Nat}:SeenR nb [] []:=⟨rfl,fun _=>Iff.rfl,Nat.le_refl _,by simp⟩
theorem SeenR.put {nb:Nat} {l:List Int} {S:List (Int × Value)} (h:SeenR nb l S) {b:Int} (hb:numB nb b=true) (v:Value):SeenR nb (l ++ [b]) (mput S b v):=by
 have hk:=mput_keys (m:=S) (k:=b) (v:=v)
 have hl:(mput S b v).length=if (mget S b).isSome then S.length else S.length+1:=by
  have:=congrArg List.length hk
  rw [List.length_map] at this
  rw [this];split <;> simp
 have hn:=h.eq
 have hle:=h.le
 have hnd:(l ++ [b]).Nodup ↔ l.Nodup/\b ∉ l:=by
  rw [List.nodup_append]
  constructor
  ·rintro ⟨h1,_,h3⟩;exact ⟨h1,fun hm=>h3 b hm b (by simp) rfl⟩
  ·rintro ⟨h1,h2⟩;exact ⟨h1,by simp,fun x hx y hy e=>by simp at hy;subst hy;subst e;exact h2 hx⟩
 cases hg:mget S b with
 | none =>
  have hno:b ∉ l:=fun hm=>mget_none.1 hg ((h.mem b).2 hm)
  rw [hg] at hk hl
  simp only [Option.isSome_none,Bool.false_eq_true,if_false] at hk hl
  refine ⟨by rw [List.all_append,h.all];simp [hb],fun y=>by rw [hk];simp [h.mem y],by rw [hl];simp;omega, ?_⟩
  rw [hl,hnd,List.length_append, <-hn];simp;intro _;exact hno
 | some u =>
  have hm1:b ∈ S.map (·.1):=List.mem_map.2 ⟨_,mget_some hg,rfl⟩
  have hyes:b ∈ l:=(h.mem b).1 hm1
  rw [hg] at hk hl
  simp only [Option.isSome_some,if_true] at hk hl
  refine ⟨by rw [List.all_append,h.all];simp [hb],fun y=>by rw [hk,h.mem y];simp;intro e;subst e;exact hyes,by rw [hl];simp;omega, ?_⟩
  rw [hl,hnd,List.length_append];simp [hyes];omega
theorem phiM_no {np nb:Nat} {T:List (Int × Int)} {x:PhiD} (h:phiOk nb x=false):phiM np nb T x=none:=by unfold phiM;rw [h];rfl
theorem chkPhiBad {w : World} {bc : Nat} {id typ : Int} {af av : Option Addr} {n m cf cv : Nat} (h : ((typ == 1 || typ == 2) && (n == m)) = false) :
    Calls Tryz.prog 166 #[.pointer (some ⟨bc, 0, none⟩), .agg #[.int .i64 id, .int .i64 typ, .slice af n cf, .slice av m cv]] w fun e w' => e = .returned (.bool false) ∧ Below w.heap.size w w' := by
  cases ht1 : (typ == 1) <;> cases ht2 : (typ == 2) <;> cases hl : ((n : Int) == (m : Int))
  all_goals
    first
      | (have hnm : n = m := by simp at hl; omega
         subst hnm
         rw [ht1, ht2] at h
         simp at h; done)
      | (clear h
         go_enter Tryz.func166, Tryz.ntmps166
         go_upto_region 1 with (fail)
         have B3 : Hid (Box (w.alloc (.cells #[.int .i64 id, .int .i64 typ, .slice af n cf, .slice av m cv] 83)) (w.heap.size) #[.int .i64 id, .int .i64 typ, .slice af n cf, .slice av m cv]) := Lib.hid (by simpa using (Box.new w #[.int .i64 id, .int .i64 typ, .slice af n cf, .slice av m cv] 83))
         have HW : Hid (Below w.heap.size w (w.alloc (.cells #[.int .i64 id, .int .i64 typ, .slice af n cf, .slice av m cv] 83))) := Lib.hid ((Below.refl _ _).alloc (Nat.le_refl _) _)
         generalize (w.alloc (.cells #[.int .i64 id, .int .i64 typ, .slice af n cf, .slice av m cv] 83)) = wv at *
         obtain ⟨lB3, cB3, fB3⟩ := B3.out
         go_wp2
         all_goals (go_ret; exact ⟨rfl, HW.out⟩))
set_option maxHeartbeats 6400000 in
theorem chkPhi1 {w:World} {bc bm:Nat} {ap ab:Option Addr} {np cp nb cb:Nat} {ar ce:Int} {T:List (Int × Int)} {id:Int} {src:List Int} {n:Nat} {af av:Option Addr} {cf cv:Nat}
  (hb:Box w bc (chk (.slice ap np cp) (.slice ab nb cb) ar ce bm)) (hm:IMap w bm (encT T)) (hn:n=src.length) (hs:Ints w (.slice af n cf) src) :
  Calls Tryz.prog 166 #[.pointer (some ⟨bc,0,none⟩),.agg #[.int .i64 id,.int .i64 1,.slice af n cf,.slice av n cv]] w
   (StepR (if src.all (numB nb) && decide src.Nodup then defOne np T id 1 else none) bm w):=by
 have HBC:=Lib.hid hb
 have HM:=Lib.hid hm
 have HLB:=Lib.hid hb.lt
 have HLM:=Lib.hid hm.lt
 obtain ⟨a,cap,b,o,hav,hc,hcm,ha,hx⟩:=hs.parts
 rw [<-hn] at hav hc ha hx
 cases hav
 have HA:=Lib.hid ha
 have HX:=Lib.hid hx
 have HN:=Lib.hid hn
 have HS:=Lib.hid hs
 obtain ⟨r,hr⟩ : ∃ r,r=(if src.all (numB nb) && decide src.Nodup then defOne np T id 1 else none):=⟨_,rfl⟩
 rw [<-hr]
 have HR:=Lib.hid hr
 clear hb hm hs ha hx hn hr
 go_enter Tryz.func166,Tryz.ntmps166
 go_upto_region 1 with (fail)
 have B3:Hid (Box (w.alloc (.cells #[.int .i64 id,.int .i64 1,.slice af n cf,.slice av n cv] 83)) (w.heap.size) #[.int .i64 id,.int .i64 1,.slice af n cf,.slice av n cv]):=Lib.hid (by simpa using (Box.new w #[.int .i64 id,.int .i64 1,.slice af n cf,.slice av n cv] 83))
 have HW:Hid (Below w.heap.size w (w.alloc (.cells #[.int .i64 id,.int .i64 1,.slice af n cf,.slice av n cv] 83))):=Lib.hid ((Below.refl _ _).alloc (Nat.le_refl _) _)
 generalize (w.alloc (.cells #[.int .i64 id,.int .i64 1,.slice af n cf,.slice av n cv] 83))=wv at *
 obtain ⟨lB3,cB3,fB3⟩:=B3.out
 have hmm:=@run_makeMap Tryz.prog
 go_upto_region 4 with (fail)
 clear hmm
 have HI0:=Lib.hid (IMap.new wv)
 clear lB3 cB3 fB3
 have HL3:=Lib.hid B3.out.lt
 replace B3:=Lib.hid (B3.out.alloc (.map #[] 0))
 have HLV:=Lib.hid HW.out.size
 replace HW:=Lib.hid (HW.out.alloc HW.out.size (.map #[] 0))
 generalize wv.alloc _=wm at *

 obtain ⟨lB3,cB3,fB3⟩:=B3.out
 go_wp2_with fail
 go_loopw [29] (fun i wr => ∃ (j:Nat) (S:List (Int × Value)),j <= n/\i = .int .i64 j/\SeenR nb (src.take j) S/\IMap wr wv.heap.size S/\Below w.heap.size w wr/\Box wr w.heap.size #[.int .i64 id,.int .i64 1,.slice af n cf,.slice av n cv]) (fun i _=>n - (intOf i).toNat)
 case atStart=>exact ⟨0,[],Nat.zero_le _,rfl,SeenR.nil,HI0.out,HW.out,B3.out⟩
 case round =>
  obtain ⟨j,S,hj,rfl,hS,hI,hW,hB3⟩:=hrel
  clear lB3 cB3 fB3
  have HSE:=Lib.hid hS
  have HI:=Lib.hid hI
  replace HW:=Lib.hid hW
  replace B3:=Lib.hid hB3
  have HBR:=Lib.hid (HBC.out.later hW)
  have HMR:=Lib.hid (HM.out.later hW)
  have HLI:=Lib.hid hI.lt
  clear hS hI hW hB3 HI0

  by_cases hlt:j < n
  ·have hne:0 < n:=by omega
   obtain ⟨rfl,hbw⟩:=HA.out hne
   have hjx:src[j]? = some (src.getD j 0):=by rw [List.getD_eq_getElem?_getD,List.getElem?_eq_getElem (by have:=HN.out;omega)];rfl
   have h0:=(HW.out.cell hbw).trans (HX.out j hlt)
   have HTS:=Lib.hid (show src.take (j+1)=src.take j ++ [src.getD j 0] by rw [List.take_add_one,hjx];rfl)
   have HMEM:=Lib.hid (List.mem_of_getElem? hjx)
   clear hjx
   generalize src.getD j 0=y at *
   cases hy:numB nb y
   ·have HY:=Lib.hid hy
    clear hy
    go_wp2_with (go_at_call 187;refine (chkBlk HBR.out y false HY.out).mono ?_;rintro e w1 ⟨rfl,rfl⟩)
    go_ret
    refine StepR.no ?_ (Turn.of_below HW.out _)
    rw [HR.out,show src.all (numB nb)=false by rw [List.all_eq_false];exact ⟨y,HMEM.out,by rw [HY.out];simp⟩]
    rfl
   ·have HY:=Lib.hid hy
    clear hy
    go_wp2_with (first
     | (go_at_call 187;refine (chkBlk HBR.out y true HY.out).mono ?_;rintro e w1 ⟨rfl,rfl⟩)
     | (at_mapUpdate;refine wpList_put (q:=.i64) (b:=wv.heap.size) (mm:=S) (y:=y) rfl _ _ _ _ (.inl rfl) Tryz.underlying247 Tryz.underlying3 rfl HI.out rfl ?_;intro w2 hm2 hz2 ht2;have HP:=Lib.hid hm2;have HT:=Lib.hid ht2;clear hm2 hz2 ht2))
    have hbel:Below w.heap.size wr w2:=HT.out.below HW.out.size (fun x hx=>by simp at hx;subst hx;exact HLV.out)
    have hne3:w.heap.size ∉ [wv.heap.size]:=by simp;have:=HL3.out;omega
    go_roundw
    case rel=>exact ⟨j+1,_,hlt,by go_num,by rw [HTS.out];exact HSE.out.put HY.out _,HP.out,HW.out.trans hbel,B3.out.turn HT.out hne3⟩
    case measure=>simp [intOf];omega
  ·obtain rfl:j=n:=by omega
   have HT0:src.take j=src:=List.take_of_length_le (by have:=HN.out;omega)
   rw [HT0] at HSE
   have HSA:=Lib.hid HSE.out.all
   have HEQ:Hid (decide src.Nodup=decide ((S.length:Int)=j)):=Lib.hid (by have:=HSE.out.eq;rw [<-HN.out] at this;rw [Bool.eq_iff_iff];simp only [decide_eq_true_eq];rw [<-this];omega)
   have HR2:Hid (r=if decide ((S.length:Int)=j) then defOne np T id 1 else none):=Lib.hid (by rw [HR.out,HSA.out,HEQ.out];rfl)
   clear HT0
   have lS:S.length <= 17592186044416:=by
    have:=HSE.out.le;have:=HS.out.1.big;omega
   cases hq:((S.length:Int) == (j:Int))
   ·
    obtain ⟨lB3,cB3,fB3⟩:=B3.out
    go_wp2_with (at_len;have _t:=HI;refine wpList_maplen rfl _ 247 rfl Tryz.underlying247 (b:=wv.heap.size) (mm:=S) rfl HI.out ?_;clear HI)
    go_ret
    exact StepR.no (by rw [HR2.out,if_neg];simpa using hq) (Turn.of_below HW.out _)
   ·have HQ:=Lib.hid hq
    obtain ⟨lB3,cB3,fB3⟩:=B3.out
    go_wp2_with (at_len;have _t:=HI;refine wpList_maplen rfl _ 247 rfl Tryz.underlying247 (b:=wv.heap.size) (mm:=S) rfl HI.out ?_;clear HI)
    refine (chkDef HBR.out HMR.out id 1).mono ?_
    rintro e w3 ⟨rfl,h3,t3⟩
    have H3:=Lib.hid h3
    have T3:=Lib.hid t3
    clear h3 t3
    go_wp2
    go_ret
    have e:r=defOne np T id 1:=by rw [HR2.out,if_pos];simpa using HQ.out
    rw [e]
    exact ⟨rfl,H3.out,(Turn.of_below HW.out _).trans (by first | exact T3.out)⟩
set_option maxHeartbeats 6400000 in
theorem chkPhi2 {w:World} {bc bm:Nat} {ap ab:Option Addr} {np cp nb cb:Nat} {ar ce:Int} {T:List (Int × Int)} {id:Int} {src:List Int} {n:Nat} {af av:Option Addr} {cf cv:Nat}
  (hb:Box w bc (chk (.slice ap np cp) (.slice ab nb cb) ar ce bm)) (hm:IMap w bm (encT T)) (hn:n=src.length) (hs:Ints w (.slice af n cf) src) :
  Calls Tryz.prog 166 #[.pointer (some ⟨bc,0,none⟩),.agg #[.int .i64 id,.int .i64 2,.slice af n cf,.slice av n cv]] w
   (StepR (if src.all (numB nb) && decide src.Nodup then defOne np T id 2 else none) bm w):=by
 have HBC:=Lib.hid hb
 have HM:=Lib.hid hm
 have HLB:=Lib.hid hb.lt
 have HLM:=Lib.hid hm.lt
 obtain ⟨a,cap,b,o,hav,hc,hcm,ha,hx⟩:=hs.parts
 rw [<-hn] at hav hc ha hx
 cases hav
 have HA:=Lib.hid ha
 have HX:=Lib.hid hx
 have HN:=Lib.hid hn
 have HS:=Lib.hid hs
 obtain ⟨r,hr⟩ : ∃ r,r=(if src.all (numB nb) && decide src.Nodup then defOne np T id 2 else none):=⟨_,rfl⟩
 rw [<-hr]
 have HR:=Lib.hid hr
 clear hb hm hs ha hx hn hr
 go_enter Tryz.func166,Tryz.ntmps166
 go_upto_region 1 with (fail)
 have B3:Hid (Box (w.alloc (.cells #[.int .i64 id,.int .i64 2,.slice af n cf,.slice av n cv] 83)) (w.heap.size) #[.int .i64 id,.int .i64 2,.slice af n cf,.slice av n cv]):=Lib.hid (by simpa using (Box.new w #[.int .i64 id,.int .i64 2,.slice af n cf,.slice av n cv] 83))
 have HW:Hid (Below w.heap.size w (w.alloc (.cells #[.int .i64 id,.int .i64 2,.slice af n cf,.slice av n cv] 83))):=Lib.hid ((Below.refl _ _).alloc (Nat.le_refl _) _)
 generalize (w.alloc (.cells #[.int .i64 id,.int .i64 2,.slice af n cf,.slice av n cv] 83))=wv at *
 obtain ⟨lB3,cB3,fB3⟩:=B3.out
 have hmm:=@run_makeMap Tryz.prog
 go_upto_region 4 with (fail)
 clear hmm
 have HI0:=Lib.hid (IMap.new wv)
 clear lB3 cB3 fB3
 have HL3:=Lib.hid B3.out.lt
 replace B3:=Lib.hid (B3.out.alloc (.map #[] 0))
 have HLV:=Lib.hid HW.out.size
 replace HW:=Lib.hid (HW.out.alloc HW.out.size (.map #[] 0))
 generalize wv.alloc _=wm at *

 obtain ⟨lB3,cB3,fB3⟩:=B3.out
 go_wp2_with fail
 go_loopw [29] (fun i wr => ∃ (j:Nat) (S:List (Int × Value)),j <= n/\i = .int .i64 j/\SeenR nb (src.take j) S/\IMap wr wv.heap.size S/\Below w.heap.size w wr/\Box wr w.heap.size #[.int .i64 id,.int .i64 2,.slice af n cf,.slice av n cv]) (fun i _=>n - (intOf i).toNat)
 case atStart=>exact ⟨0,[],Nat.zero_le _,rfl,SeenR.nil,HI0.out,HW.out,B3.out⟩
 case round =>
  obtain ⟨j,S,hj,rfl,hS,hI,hW,hB3⟩:=hrel
  clear lB3 cB3 fB3
  have HSE:=Lib.hid hS
  have HI:=Lib.hid hI
  replace HW:=Lib.hid hW
  replace B3:=Lib.hid hB3
  have HBR:=Lib.hid (HBC.out.later hW)
  have HMR:=Lib.hid (HM.out.later hW)
  have HLI:=Lib.hid hI.lt
  clear hS hI hW hB3 HI0

  by_cases hlt:j < n
  ·have hne:0 < n:=by omega
   obtain ⟨rfl,hbw⟩:=HA.out hne
   have hjx:src[j]? = some (src.getD j 0):=by rw [List.getD_eq_getElem?_getD,List.getElem?_eq_getElem (by have:=HN.out;omega)];rfl
   have h0:=(HW.out.cell hbw).trans (HX.out j hlt)
   have HTS:=Lib.hid (show src.take (j+1)=src.take j ++ [src.getD j 0] by rw [List.take_add_one,hjx];rfl)
   have HMEM:=Lib.hid (List.mem_of_getElem? hjx)
   clear hjx
   generalize src.getD j 0=y at *
   cases hy:numB nb y
   ·have HY:=Lib.hid hy
    clear hy
    go_wp2_with (go_at_call 187;refine (chkBlk HBR.out y false HY.out).mono ?_;rintro e w1 ⟨rfl,rfl⟩)
    go_ret
    refine StepR.no ?_ (Turn.of_below HW.out _)
    rw [HR.out,show src.all (numB nb)=false by rw [List.all_eq_false];exact ⟨y,HMEM.out,by rw [HY.out];simp⟩]
    rfl
   ·have HY:=Lib.hid hy
    clear hy
    go_wp2_with (first
     | (go_at_call 187;refine (chkBlk HBR.out y true HY.out).mono ?_;rintro e w1 ⟨rfl,rfl⟩)
     | (at_mapUpdate;refine wpList_put (q:=.i64) (b:=wv.heap.size) (mm:=S) (y:=y) rfl _ _ _ _ (.inl rfl) Tryz.underlying247 Tryz.underlying3 rfl HI.out rfl ?_;intro w2 hm2 hz2 ht2;have HP:=Lib.hid hm2;have HT:=Lib.hid ht2;clear hm2 hz2 ht2))
    have hbel:Below w.heap.size wr w2:=HT.out.below HW.out.size (fun x hx=>by simp at hx;subst hx;exact HLV.out)
    have hne3:w.heap.size ∉ [wv.heap.size]:=by simp;have:=HL3.out;omega
    go_roundw
    case rel=>exact ⟨j+1,_,hlt,by go_num,by rw [HTS.out];exact HSE.out.put HY.out _,HP.out,HW.out.trans hbel,B3.out.turn HT.out hne3⟩
    case measure=>simp [intOf];omega
  ·obtain rfl:j=n:=by omega
   have HT0:src.take j=src:=List.take_of_length_le (by have:=HN.out;omega)
   rw [HT0] at HSE
   have HSA:=Lib.hid HSE.out.all
   have HEQ:Hid (decide src.Nodup=decide ((S.length:Int)=j)):=Lib.hid (by have:=HSE.out.eq;rw [<-HN.out] at this;rw [Bool.eq_iff_iff];simp only [decide_eq_true_eq];rw [<-this];omega)
   have HR2:Hid (r=if decide ((S.length:Int)=j) then defOne np T id 2 else none):=Lib.hid (by rw [HR.out,HSA.out,HEQ.out];rfl)
   clear HT0
   have lS:S.length <= 17592186044416:=by
    have:=HSE.out.le;have:=HS.out.1.big;omega
   cases hq:((S.length:Int) == (j:Int))
   ·
    obtain ⟨lB3,cB3,fB3⟩:=B3.out
    go_wp2_with (at_len;have _t:=HI;refine wpList_maplen rfl _ 247 rfl Tryz.underlying247 (b:=wv.heap.size) (mm:=S) rfl HI.out ?_;clear HI)
    go_ret
    exact StepR.no (by rw [HR2.out,if_neg];simpa using hq) (Turn.of_below HW.out _)
   ·have HQ:=Lib.hid hq
    obtain ⟨lB3,cB3,fB3⟩:=B3.out
    go_wp2_with (at_len;have _t:=HI;refine wpList_maplen rfl _ 247 rfl Tryz.underlying247 (b:=wv.heap.size) (mm:=S) rfl HI.out ?_;clear HI)
    refine (chkDef HBR.out HMR.out id 2).mono ?_
    rintro e w3 ⟨rfl,h3,t3⟩
    have H3:=Lib.hid h3
    have T3:=Lib.hid t3
    clear h3 t3
    go_wp2
    go_ret
    have e:r=defOne np T id 2:=by rw [HR2.out,if_pos];simpa using HQ.out
    rw [e]
    exact ⟨rfl,H3.out,(Turn.of_below HW.out _).trans (by first | exact T3.out)⟩
theorem chkPhi {w:World} {bc bm:Nat} {ap ab:Option Addr} {np cp nb cb:Nat} {ar ce:Int} {T:List (Int × Int)} {x:PhiD} {af av:Option Addr} {cf cv:Nat}
  (hb:Box w bc (chk (.slice ap np cp) (.slice ab nb cb) ar ce bm)) (hm:IMap w bm (encT T)) (hs:Ints w (.slice af x.src.length cf) x.src) :
  Calls Tryz.prog 166 #[.pointer (some ⟨bc,0,none⟩),.agg (phiA x af av cf cv)] w (StepR (phiM np nb T x) bm w):=by
 cases hg:((x.typ == 1 || x.typ == 2) && (x.src.length == x.vals.length))
 ·refine (chkPhiBad hg).mono fun e w' ⟨he,hw⟩ => ?_
  subst he
  exact StepR.no (phiM_no (by unfold phiOk;rw [hg];rfl)) (Turn.of_below hw _)
 ·have hok:phiOk nb x=(x.src.all (numB nb) && decide x.src.Nodup):=by unfold phiOk;rw [hg];rfl
  have hM:phiM np nb T x=if x.src.all (numB nb) && decide x.src.Nodup then defOne np T x.id x.typ else none:=by unfold phiM;rw [hok]
  rw [hM]
  simp only [Bool.and_eq_true,Bool.or_eq_true,beq_iff_eq] at hg
  unfold phiA
  rw [<-hg.2]
  rcases hg.1 with h | h
  ·rw [h];exact chkPhi1 hb hm rfl hs
  ·rw [h];exact chkPhi2 hb hm rfl hs
end Go.Proofs.YtgmhnepmkaonaaaGreat
