/- Part 32. -/
import Derived.Test.YtgmhnepmkaonaaaGreatQA26
namespace Go.Proofs.YtgmhnepmkaonaaaGreat
private theorem h! {p : Prop} (h : p) : Go.RowKit.Hid p := Go.Lib.hid h
set_option maxHeartbeats 12800000
set_option linter.unusedSimpArgs false
set_option linter.unusedVariables false
section
open Go.RowKit
def predX (f:FuncD) (t b:Nat):List (List Int):=(List.range f.blocks.length).map fun u=>natI (if u < t then predN f f.blocks.length 0 u else if u=t then predN f b 0 u else [])
theorem predX_len (f:FuncD) (t b:Nat):(predX f t b).length=f.blocks.length:=by simp [predX]
theorem predX_at {f:FuncD} {t b:Nat} (h:t < f.blocks.length):(predX f t b)[t]? = some (natI (predN f b 0 t)):=by simp [predX,h]
theorem predX_start (f:FuncD):predX f 0 0=List.replicate f.blocks.length []:=by
 apply List.ext_getElem?
 intro t
 by_cases h:t < f.blocks.length
 ·simp only [predX,List.getElem?_map,List.getElem?_range h,Option.map_some]
  rw [List.getElem?_replicate,if_pos h]
  by_cases e:t=0 <;> simp [e,natI,predN_zero]
 ·rw [List.getElem?_eq_none (by rw [predX_len];omega),List.getElem?_eq_none (by simp;omega)]
theorem predN_succ (f:FuncD) (b t:Nat):predN f (b+1) 0 t=predN f b 0 t ++ (if (toB f b).contains t then [b] else []):=by
 rw [predN_zero,predN_zero,List.range_succ,List.filter_append]
 simp only [List.filter_cons,List.filter_nil]
theorem predX_old {f:FuncD} {t b:Nat} (h:(toB f b).contains t=false):predX f t (b+1)=predX f t b:=by
 unfold predX
 refine List.map_congr_left fun u _ => ?_
 by_cases e:u=t
 ·subst e;rw [predN_succ,h];simp
 ·simp [e]
theorem predX_new {f:FuncD} {t b:Nat} (h:(toB f b).contains t=true) (ht:t < f.blocks.length):(predX f t b).set t (natI (predN f b 0 t ++ [b]))=predX f t (b+1):=by
 apply List.ext_getElem?
 intro u
 rw [List.getElem?_set,predX_len]
 by_cases hu:u < f.blocks.length
 ·have e0:∀ b,(predX f t b)[u]? = some (natI (if u < t then predN f f.blocks.length 0 u else if u=t then predN f b 0 u else [])):=fun b=>by simp [predX,hu]
  rw [e0,e0]
  by_cases e:t=u
  ·subst e
   rw [if_pos rfl,if_pos hu,if_neg (Nat.lt_irrefl _),if_pos rfl,predN_succ,h]
   simp
  ·rw [if_neg e,if_neg (Ne.symm e),if_neg (Ne.symm e)]
 ·rw [List.getElem?_eq_none (by rw [predX_len];omega),List.getElem?_eq_none (by rw [predX_len];omega)]
  split <;> simp_all
theorem predX_next (f:FuncD) (t:Nat):predX f t f.blocks.length=predX f (t+1) 0:=by
 unfold predX
 refine List.map_congr_left fun u _ => ?_
 by_cases h1:u < t
 ·rw [if_pos h1,if_pos (by omega)]
 ·rw [if_neg h1]
  by_cases h2:u=t
  ·subst h2;rw [if_pos rfl,if_pos (by omega)]
  ·rw [if_neg h2,if_neg (by omega)]
   split
   ·simp [predN_zero]
   ·rfl
theorem predX_done (f:FuncD):predX f f.blocks.length 0=predsF f:=by
 unfold predX predsF predI
 refine List.map_congr_left fun u hu => ?_
 rw [if_pos (List.mem_range.1 hu)]
set_option maxRecDepth 100000 in
theorem refPreds {w:World} {v:Value} {f:FuncD} (hv:FuncV w v f) (hf:formB f=true):Calls Tryz.prog 68 #[v] w fun e w' => ∃ pv,e = .returned pv/\Lists w' pv (predsF f)/\Below w.heap.size w w':=by
 have HTO:=h! (fun (b:Nat) (x:BlockD) (h:f.blocks[b]? = some x)=>formB_to hf h)
 obtain ⟨hn1,hn2⟩:=formB_nb hf
 obtain ⟨ap,cp,ab,cb,rfl,hp,ha,hc,hB⟩:=hv.form
 obtain ⟨a2,c2,bb,bo,hbe,hbc,hbm,hbl,hba,hbx⟩:=blocks_parts hB
 cases hbe
 obtain ⟨np,hnp⟩ : ∃ np,np=f.params.length:=⟨_,rfl⟩
 obtain ⟨nb,hnb⟩ : ∃ nb,nb=f.blocks.length:=⟨_,rfl⟩
 rw [<-hnp]
 rw [<-hnb] at hbc hba hbl hn1 hn2 ⊢
 obtain ⟨rfl,hbw⟩:=hba hn1
 have HNB:=h! hnb
 have HBX:=h! hbx
 have hn0:(0:Int) <= (nb:Int):=by omega
 clear hp ha hc hB hv hbx hnp hnb hba hf
 generalize f.arrays=ar at *
 generalize f.cells=ce at *
 have hmk:=run_make_row' (P:=Tryz.prog) 42 22 (.slice none 0 0) 24 Tryz.underlying42 infoInts rfl .i64 .i64 nb (by omega) (by omega)
 go_enter Tryz.func68,Tryz.ntmps68
 go_upto_region 1 with (fail)
 have B1:Hid (Box (w.alloc (.cells #[.slice ap np cp,.int .i64 ar,.int .i64 ce,.slice (some ⟨bb,bo,none⟩) nb cb] 25)) (w.heap.size) #[.slice ap np cp,.int .i64 ar,.int .i64 ce,.slice (some ⟨bb,bo,none⟩) nb cb]):=h! (by simpa using (Box.new w #[.slice ap np cp,.int .i64 ar,.int .i64 ce,.slice (some ⟨bb,bo,none⟩) nb cb] 25))
 have HW:Hid (Below w.heap.size w (w.alloc (.cells #[.slice ap np cp,.int .i64 ar,.int .i64 ce,.slice (some ⟨bb,bo,none⟩) nb cb] 25))):=h! ((Below.refl _ _).alloc (Nat.le_refl _) _)
 generalize (w.alloc (.cells #[.slice ap np cp,.int .i64 ar,.int .i64 ce,.slice (some ⟨bb,bo,none⟩) nb cb] 25))=wv at *
 obtain ⟨lB1,cB1,fB1⟩:=B1.out
 go_upto_region 2 with (fail)
 have HRW:Hid (Bag (wv.alloc (.cells (madeCells #[.slice none 0 0] nb) 22)) w.heap.size [w.heap.size] wv.heap.size 3 _ (predX f 0 0)):=h! (by
  rw [predX_start, <-HNB.out]
  exact Bag.empty (Box.new _ _ _))
 have hbA:=(Below.refl wv.heap.size wv).alloc (Nat.le_refl _) (.cells (madeCells #[.slice none 0 0] nb) 22)
 have HG0:Hid (w.heap.size < wv.heap.size):=h! lB1
 clear lB1 cB1 fB1
 replace B1:=h! (B1.out.later hbA)
 replace HW:=h! (HW.out.trans (hbA.mono HW.out.size))
 clear hbA
 obtain ⟨lB1,cB1,fB1⟩:=B1.out
 obtain ⟨bp,hbp⟩ : ∃ bp,bp=wv.heap.size:=⟨_,rfl⟩
 rw [<-hbp] at HRW HG0
 generalize wv.alloc _=wa at *
 simp only [<-hbp]
 clear hbp hmk
 go_wp2_with fail
 go_loopw [4] (fun i wr => ∃ (t:Nat) (vs:List Value),t <= nb/\i = .int .i64 t/\Bag wr w.heap.size [w.heap.size] bp 3 vs (predX f t 0)/\Below w.heap.size w wr/\Box wr w.heap.size #[.slice ap np cp,.int .i64 ar,.int .i64 ce,.slice (some ⟨bb,bo,none⟩) nb cb]) (fun i _=>nb - (intOf i).toNat)
 case atStart=>exact ⟨0,_,Nat.zero_le _,rfl,HRW.out,HW.out,B1.out⟩
 case round =>
  obtain ⟨t,vs,ht,rfl,hR,hW,h1⟩:=hrel
  clear lB1 cB1 fB1
  replace HRW:=h! hR
  replace HW:=h! hW
  replace B1:=h! h1
  clear hR hW h1
  generalize wr=w3 at *
  obtain ⟨lB1,cB1,fB1⟩:=B1.out
  by_cases hlt:t < nb
  ·go_wp2_with fail
   go_loopw [5] (fun i wr => ∃ (b:Nat) (vs:List Value),b <= nb/\i = .int .i64 b/\Bag wr w.heap.size [w.heap.size] bp 3 vs (predX f t b)/\Below w.heap.size w wr/\Box wr w.heap.size #[.slice ap np cp,.int .i64 ar,.int .i64 ce,.slice (some ⟨bb,bo,none⟩) nb cb]) (fun i _=>nb - (intOf i).toNat)
   case atStart=>exact ⟨0,_,Nat.zero_le _,rfl,HRW.out,HW.out,B1.out⟩
   case round =>
    obtain ⟨b,vs,hb,rfl,hR,hW,h1⟩:=hrel
    clear lB1 cB1 fB1
    replace HRW:=h! hR
    replace HW:=h! hW
    replace B1:=h! h1
    clear hR hW h1
    generalize wr=w5 at *
    obtain ⟨lB1,cB1,fB1⟩:=B1.out
    by_cases hltb:b < nb
    ·obtain ⟨x,hjx⟩ : ∃ x,f.blocks[b]? = some x:=⟨_,List.getElem?_eq_getElem (by have:=HNB.out;omega)⟩
     obtain ⟨api,aii,ati,cpi,cii,cti,hC⟩:=HBX.out b x hjx
     have HIT:=h! (hC.to.below HW.out)
     obtain ⟨k0,k1,k2,k3,k4,k5,q1,q2,q3,q4,q5,q6⟩:=hC.below HW.out hbw
     obtain ⟨cc,hcc⟩ : ∃ cc,cc=x.term.to.contains (t:Int):=⟨_,rfl⟩
     have HCC:Hid ((toB f b).contains t=cc):=h! (by
      rw [hcc,natI_contains (fun y hy=>by have:=HTO.out b x hjx y hy;omega),toB_at hjx])
     have HCT:=h! (refHas (x:=(t:Int)) HIT.out)
     rw [<-hcc] at HCT
     clear q1 q2 q3 q4 q5 q6 hC hjx k0 k1 k2 k3 k5 hcc
     go_wp2_with fail
     refine HCT.out.mono ?_
     rintro e w6 ⟨rfl,rfl⟩
     clear k4
     cases cc
     ·go_wp2
      go_roundw
      case rel=>exact ⟨b+1,vs,hltb,by go_num,by rw [predX_old HCC.out];exact HRW.out,HW.out,B1.out⟩
      case measure=>simp [intOf];omega
     ·obtain ⟨v,hvt,hcv,hOv⟩:=HRW.out.at (predX_at (f:=f) (t:=t) (b:=b) (by have:=HNB.out;omega))
      obtain ⟨n,hn⟩ : ∃ n,n=(natI (predN f b 0 t)).length:=⟨_,rfl⟩
      have hnle:n <= b+1:=by rw [hn,natI_len];exact predN_le f b 0 t
      rw [<-hn] at hOv
      have HN:=h! hn
      have HO:=h! hOv
      have HVT:=h! hvt
      obtain ⟨va,vc,rfl⟩:=hOv.form
      have hbpl:=HRW.out.box.lt
      have hbpf:=HRW.out.box.free t
      clear hn hOv hvt
      have HAP:=h! (HO.out.alloc (.cells #[.int .i64 b] 3))
      have HBX1:=h! (Box.new w5 #[.int .i64 b] 3)
      have HBR:=h! (HRW.out.alloc (.cells #[.int .i64 b] 3))
      have HB1:=h! (B1.out.alloc (.cells #[.int .i64 b] 3))
      have HWA:=h! (HW.out.alloc HW.out.size (.cells #[.int .i64 b] 3))
      go_wp2_with (at_builtin;refine wpList_kept rfl _ _ 22 3 rfl elInt rfl rfl HAP.out (Row.of_box (n:=1) (size:=1) HBX1.out rfl (by omega)) (by simp [Value.oneCell']) (by unfold maxLen;omega) (by omega) HWA.out.size (by intro y hy;simp at hy ⊢;omega) ?_;intro v7 w7 hO7 hK7;obtain ⟨oa7,oc7,rfl⟩:=hO7.form;have HO7:=h! hO7;have HK7:=h! hK7;have hc7:w7.cell? ⟨bp,t,none⟩=some (.slice va n vc):=(HBR.out.box.kept hK7 (by simp) (fun e=>HO.out.free _ e (by simp))).at t (by simpa using HVT.out);have hf7:w7.frozen? ⟨bp,t,none⟩=false:=(HBR.out.box.kept hK7 (by simp) (fun e=>HO.out.free _ e (by simp))).free t;clear hO7 hK7)
      have HR7:Hid (Bag (w7.setCell ⟨bp,t,none⟩ (.slice oa7 (n+1) oc7)) w.heap.size [w.heap.size] bp 3 (vs.set t (.slice oa7 (n+1) oc7)) (predX f t (b+1))):=h! (by
       rw [<-predX_new HCC.out (by have:=HNB.out;omega)]
       refine HBR.out.put HVT.out (predX_at (by have:=HNB.out;omega)) ?_ HK7.out
       have e9:natI (predN f b 0 t ++ [b])=natI (predN f b 0 t) ++ [(b:Int)]:=by simp [natI]
       rw [e9,List.length_append,List.map_append, <-HN.out]
       exact HO7.out)
      have HW7:=h! ((HK7.out.below HWA.out (by simp) (fun k hk=>(HAP.out.lt hk).2)).setCell (p:=⟨bp,t,none⟩) (by have:=HG0.out;simp only;omega) (.slice oa7 (n+1) oc7))
      have H17:=h! ((HB1.out.kept HK7.out (by simp) (fun e=>HO.out.free _ e (by simp))).other (p:=⟨bp,t,none⟩) (.slice oa7 (n+1) oc7) (by have:=HG0.out;simp only;omega))
      go_roundw
      case rel=>exact ⟨b+1,_,hltb,by go_num,HR7.out,HW7.out,H17.out⟩
      case measure=>simp [intOf];omega
    ·have hbn:b=nb:=by omega
     have HNX:Hid (predX f t b=predX f (t+1) 0):=h! (by rw [hbn,HNB.out,predX_next])
     go_wp2
     go_roundw
     case rel=>exact ⟨t+1,vs,hlt,by go_num,by rw [<-HNX.out];exact HRW.out,HW.out,B1.out⟩
     case measure=>simp [intOf];omega
  ·have htn:t=nb:=by omega
   have HLS:Hid (Lists w3 (.slice (some ⟨bp,0,none⟩) nb nb) (predsF f)):=h! (by
    have h1:=HRW.out
    rw [htn,HNB.out,predX_done] at h1
    have h2:=h1.lists (by unfold predsF;rw [predI_len];have:=HNB.out;omega) (predI_ok (by have:=HNB.out;omega))
    have h3:(predsF f).length=nb:=by unfold predsF;rw [predI_len,HNB.out]
    rw [h3] at h2;exact h2)
   go_wp2
   go_ret
   exact ⟨_,rfl,HLS.out,HW.out⟩
end
section
open Go.RowKit
structure SeeI (base B nb:Nat) (W:World) (s:List Bool) (d:List Nat) (dv:Value):Prop where
 flags:Box W B (flagsA s)
 own:Own W base [B] 3 1 dv d.length (d.map fun x:Nat=>Value.int .i64 x)
 len:s.length=nb
theorem SeeI.later {base B nb:Nat} {W W' : World} {s:List Bool} {d:List Nat} {dv:Value} (h:SeeI base B nb W s d dv) (hb:Below W.heap.size W W'):SeeI base B nb W' s d dv:=⟨h.flags.later hb,h.own.later hb,h.len⟩
theorem SeeI.flag {base B nb:Nat} {W:World} {s:List Bool} {d:List Nat} {dv:Value} (h:SeeI base B nb W s d dv) (b:Nat):SeeI base B nb (W.setCell ⟨B,b,none⟩ (.bool true)) (s.set b true) d dv:=by
 refine ⟨?_,h.own.other _ (by simp),by rw [List.length_set];exact h.len⟩
 have:=h.flags.set b (.bool true)
 rwa [flagsA_set] at this
def SeeR (f:FuncD) (base B nb:Nat) (w0 W:World) (s:List Bool) (d:List Nat) (dv:Value) (b:Nat) (e:Ending) (W' : World):Prop :=
 ∃ s' d' dv',e = .returned dv' /\ Steps (toB f) (toB f b) (s.set b true) d s' d' /\ SeeI base B nb W' s' (d' ++ [b]) dv' /\ Kept [B] dv dv' W W' /\ Below w0.heap.size w0 W'
theorem refVisit {w:World} {f:FuncD} {ap:Option Addr} {np cp:Nat} {ar ce:Int} {nb cb b0 bo:Nat} (hnb:nb=f.blocks.length) (hcb:nb <= cb) (hcm:cb <= 9223372036854775807) (hb0:b0 < w.heap.size) (h512:nb <= 512)
  (hbx:∀ (j:Nat) (x:BlockD),f.blocks[j]? = some x -> ∃ api aii ati cpi cii cti,BlockC w b0 (bo+j * 6) x api aii ati cpi cii cti)
  (hto:∀ (j:Nat) (x:BlockD),f.blocks[j]? = some x -> ∀ t ∈ x.term.to,1 <= t/\t < (nb:Int)) {B:Nat} (hB:w.heap.size <= B) :
  ∀ (m:Nat) (W:World) (s:List Bool) (d:List Nat) (dv:Value) (b:Nat),s.count false <= m -> d.length+s.count false <= 1024 -> SeeI w.heap.size B nb W s d dv -> Below w.heap.size w W -> s[b]? = some false ->
   Calls Tryz.prog 90 #[.agg #[.slice ap np cp,.int .i64 ar,.int .i64 ce,.slice (some ⟨b0,bo,none⟩) nb cb],.int .i64 b,.slice (some ⟨B,0,none⟩) nb nb,dv] W
    (SeeR f w.heap.size B nb w W s d dv b):=by
 intro m
 induction m with
 | zero =>
  intro W s d dv b hm _ _ _ hs
  exfalso
  have:=count_set hs
  omega
 | succ m ih =>
  intro W s d dv b hm hd hsee hW hs
  have HIH:=h! ih
  have HNB:=h! hnb
  have HBX:=h! hbx
  have HTO:=h! hto
  have hcs:=count_set hs
  have hbl:b < nb:=by have:=(List.getElem?_eq_some_iff.1 hs).1;rw [hsee.len] at this;exact this
  obtain ⟨x,hx⟩ : ∃ x,f.blocks[b]? = some x:=⟨_,List.getElem?_eq_getElem (by omega)⟩
  have HX:=h! hx
  obtain ⟨api,aii,ati,cpi,cii,cti,hC⟩:=hbx b x hx
  obtain ⟨ta,tc,tb0,to0,hte,htc,htm,hta,htx⟩:=hC.to.parts
  cases hte
  have HTA:=h! hta
  have HTX:=h! htx
  obtain ⟨tl,htl⟩ : ∃ tl,tl=x.term.to.length:=⟨_,rfl⟩
  have HTN:=h! htl
  have HC:=h! hC
  rw [<-htl] at htc
  have HV:=h! hsee
  have HW:=h! hW
  have HS:=h! hs
  have HD:=h! hd
  have HCS:=h! hcs
  have HM:=h! hm
  obtain ⟨da,dc,rfl⟩:=hsee.own.form
  clear hsee hW hs hd hcs hm hx hC htl hta htx hnb hbx hto ih
  go_enter Tryz.func90,Tryz.ntmps90
  go_upto_region 1 with (fail)
  have hbA:=(Below.refl W.heap.size W).alloc (Nat.le_refl _) (.cells #[.slice ap np cp,.int .i64 ar,.int .i64 ce,.slice (some ⟨b0,bo,none⟩) nb cb] 25)
  have B1:=h! (Box.new W #[.slice ap np cp,.int .i64 ar,.int .i64 ce,.slice (some ⟨b0,bo,none⟩) nb cb] 25)
  have HBL:=h! (⟨HV.out.flags.lt,fun k hk=>(HV.out.own.lt hk).1⟩ : B < W.heap.size /\ ∀ k,(Value.slice da d.length dc).ownBlock=some k -> k < W.heap.size)
  replace HV:=h! (HV.out.later hbA)
  have HK0:Hid (Kept [B] (.slice da d.length dc) (.slice da d.length dc) W (W.alloc (.cells #[.slice ap np cp,.int .i64 ar,.int .i64 ce,.slice (some ⟨b0,bo,none⟩) nb cb] 25))):=h! (Kept.of_below hbA)
  replace HW:=h! (HW.out.alloc HW.out.size (.cells #[.slice ap np cp,.int .i64 ar,.int .i64 ce,.slice (some ⟨b0,bo,none⟩) nb cb] 25))
  obtain ⟨W0,hW0⟩ : ∃ W0,W0=W:=⟨_,rfl⟩
  have HSZ:Hid (W.heap.size=W0.heap.size):=h! (by rw [hW0])
  generalize W.alloc _=W1 at *
  clear hbA
  obtain ⟨l2,c2,f2⟩:=HV.out.flags
  have hfl:(flagsA s)[b]? = some (.bool false):=flagsA_at HS.out
  go_upto_region 2 with (fail)
  clear l2 c2 f2 hfl
  have hneB:W.heap.size ≠ B:=fun e=>by have:=HBL.out.1;omega
  have hv2:=HV.out.flag b
  have hk2:Kept [B] (.slice da d.length dc) (.slice da d.length dc) W (W1.setCell ⟨B,b,none⟩ (.bool true)):=HK0.out.trans (Kept.set W1 _ (by simp))
  have hw2:Below w.heap.size w (W1.setCell ⟨B,b,none⟩ (.bool true)):=HW.out.setCell (p:=⟨B,b,none⟩) hB _
  replace B1:=h! (B1.out.other (p:=⟨B,b,none⟩) (.bool true) hneB)
  obtain ⟨k0,k1,k2,k3,k4,k5,q1,q2,q3,q4,q5,q6⟩:=HC.out.below hw2 hb0
  clear q1 q2 q3 q4 q5 q6 k0 k1 k2 k3 k5
  rw [<-HTN.out] at k4
  have HV2:=h! hv2
  have HK2:=h! hk2
  have HW2:=h! hw2
  generalize W1.setCell ⟨B,b,none⟩ (.bool true)=W2 at *
  clear hv2 hk2 hw2 HK0
  obtain ⟨l3,c3,f3⟩:=B1.out
  go_upto_region 3 with (fail)
  clear l3 c3 f3 k4
  go_wp2_with fail
  go_loopw [3,10] (fun u i wr => ∃ (k:Nat) (s' : List Bool) (d' : List Nat),k <= tl/\i = .int .i64 k/\Steps (toB f) ((toB f b).take k) (s.set b true) d s' d' /\ SeeI w.heap.size B nb wr s' d' u/\Kept [B] (.slice da d.length dc) u W wr/\Below w.heap.size w wr/\Box wr W.heap.size #[.slice ap np cp,.int .i64 ar,.int .i64 ce,.slice (some ⟨b0,bo,none⟩) nb cb] /\ ∀ g,u.ownBlock=some g -> g ≠ W.heap.size) (fun _ i _=>tl - (intOf i).toNat)
  case atStart=>exact ⟨0,_,_,Nat.zero_le _,rfl,Steps.nil _ _,HV2.out,HK2.out,HW2.out,B1.out,fun g hg e=>by have:=HBL.out.2 g hg;omega⟩
  case round =>
   obtain ⟨k,s',d',hk,rfl,hst,hV,hK,hWr,hB1,hfr⟩:=hrel
   have HFR:=h! hfr
   have HST:=h! hst
   replace HV:=h! hV
   have HK:=h! hK
   have HWR:=h! hWr
   replace B1:=h! hB1
   have HDR:Hid (d'.length+s'.count false+1 <= 1024):=h! (by have h1:=hst.total;have h2:=HCS.out;have h3:=HD.out;omega)
   obtain ⟨oa,oc,rfl⟩:=hV.own.form
   clear hst hV hK hWr hB1 hfr HV2 HK2 HW2
   generalize wr=W3 at *
   by_cases hlt:k < tl
   ·obtain ⟨rfl,hbt⟩:=HTA.out (by have:=HTN.out;omega)
    obtain ⟨t,ht⟩ : ∃ t,t=x.term.to.getD k 0:=⟨_,rfl⟩
    have htm:x.term.to[k]? = some t:=by rw [ht];exact list_at _ _ (by have:=HTN.out;omega)
    have htr:=HTO.out b x HX.out t (List.mem_of_getElem? htm)
    obtain ⟨tn,rfl⟩ : ∃ tn:Nat,t=(tn:Int):=⟨t.toNat,by omega⟩
    have htn:tn < nb:=by omega
    have hct:W3.cell? ⟨tb0,to0+k,none⟩=some (.int .i64 tn):=by
     rw [HWR.out.cell (p:=⟨tb0,to0+k,none⟩) hbt,HTX.out k (by have:=HTN.out;omega), <-ht]
    have HTK:Hid ((toB f b).take (k+1)=(toB f b).take k ++ [tn]):=h! (by
     rw [toB_at HX.out]
     exact take_snoc _ k tn (by rw [List.getElem?_map,htm];simp))
    obtain ⟨l2,c2,f2⟩:=HV.out.flags
    obtain ⟨sb,hsb⟩ : ∃ sb,s'[tn]? = some sb:=⟨_,List.getElem?_eq_getElem (by rw [HV.out.len];exact htn)⟩
    have hfl:=flagsA_at hsb
    have HSB:=h! hsb
    clear ht htm htr hsb
    cases sb
    ·have hms:s'.count false <= m:=by have:=HST.out.count;have:=HCS.out;have:=HM.out;omega
     have HC0:Hid (∀ W4,Below W3.heap.size W3 W4 -> Calls Tryz.prog 90 #[.agg #[.slice ap np cp,.int .i64 ar,.int .i64 ce,.slice (some ⟨b0,bo,none⟩) nb cb],.int .i64 tn,.slice (some ⟨B,0,none⟩) nb nb,.slice oa d'.length oc] W4 (SeeR f w.heap.size B nb w W4 s' d' (.slice oa d'.length oc) tn)):=h! (fun W4 hb4 =>
      HIH.out W4 s' d' _ tn hms (by have:=HDR.out;omega) (HV.out.later hb4) (HWR.out.trans (hb4.mono HWR.out.size)) HSB.out)
     clear hms
     go_upto_region 7 with (fail)
     clear l2 c2 f2 hfl
     have HSI:Hid (Since W3 W3):=h! (Below.refl _ _)
     obtain ⟨lB1,cB1,fB1⟩:=B1.out
     refine wp_region_grow 7 (fun _=>.plain) (by kernel_rfl) (by kernel_rfl) ?_ (fun ν => ?_)
     ·exact fun _=>trivial
     simp only [List.take_succ_cons,List.take_zero,List.drop_succ_cons,List.drop_zero]
     iterate 7 (refine Grow.val (v := ?_) rfl rfl (fun wg hbg hdg => ?_) ?_;rotate_left;(focus ((obtain ⟨lg0,cg0,fg0⟩:=B1.out.later hbg);(have hct9:=(hbg.cell (p:=⟨tb0,to0+k,none⟩) (World.block_lt_of_cell? W3 _ hct)).trans hct);clear hbg hdg;first | (go_simp;done) | (go_simp;with_reducible rfl)));simp only [Act.put,List.setIfInBounds_toArray,List.set_cons_zero,List.set_cons_succ])
     intro wg hb hf hap
     clear hap
     clear lB1 cB1 fB1
     replace B1:=h! (B1.out.later hb)
     replace HV:=h! (HV.out.later hb)
     replace HK:=h! (HK.out.later hb)
     replace HSI:=h! (HSI.out.later hb)
     replace HWR:=h! (HWR.out.trans (hb.mono HWR.out.size))
     clear hb
     obtain ⟨lB1,cB1,fB1⟩:=B1.out
     go_wp2_with fail
     refine (HC0.out wg HSI.out).mono ?_
     rintro e W5 ⟨s5,d5,dv5,rfl,hst5,hv5,hk5,hw5⟩
     have HS5:=h! hst5
     have HV5:=h! hv5
     have HK5:=h! hk5
     have HW5:=h! hw5
     have HB5:=h! (B1.out.kept hk5 (by simpa using hneB) (fun e=>HFR.out _ e rfl))
     have HF5:Hid (∀ g,dv5.ownBlock=some g -> g ≠ W.heap.size):=h! (fun g hg e=>by
      rcases HK5.out.own g hg with h9 | h9
      ·exact HFR.out g h9 e
      ·have:=B1.out.lt;omega)
     clear lB1 cB1 fB1
     clear hst5 hv5 hk5 hw5
     go_wp2
     go_roundw
     case rel =>
      exact ⟨k+1,s5,d5 ++ [tn],hlt,by go_num,by rw [HTK.out];exact HST.out.append (.go HSB.out HS5.out (.nil _ _)),HV5.out,HK.out.trans HK5.out,HW5.out,HB5.out,HF5.out⟩
     case measure=>simp [intOf];omega
    ·go_wp2
     go_roundw
     case rel=>exact ⟨k+1,s',d',hlt,by go_num,by rw [HTK.out];exact HST.out.append (.skip HSB.out (.nil _ _)),HV.out,HK.out,HWR.out,B1.out,HFR.out⟩
     case measure=>simp [intOf];omega
   ·have hkl:k=tl:=by omega
    rw [hkl,List.take_of_length_le (by rw [toB_at HX.out,List.length_map];exact Nat.le_of_eq HTN.out.symm)] at HST
    have hdr:=HDR.out
    have HAP:=h! (HV.out.own.alloc (.cells #[.int .i64 b] 3))
    have HBX1:=h! (Box.new W3 #[.int .i64 b] 3)
    have HWA:=h! (HWR.out.alloc HWR.out.size (.cells #[.int .i64 b] 3))
    have hbl3:=HV.out.flags.lt
    go_wp2_with (at_builtin;refine wpList_kept rfl _ _ 22 3 rfl elInt rfl rfl HAP.out (Row.of_box (n:=1) (size:=1) HBX1.out rfl (by omega)) (by simp [Value.oneCell']) (by unfold maxLen;omega) (by omega) HWA.out.size (by intro y hy;simp at hy ⊢;omega) ?_;intro v7 w7 hO7 hK7;have HO7:=h! hO7;have HK7:=h! hK7;clear hO7 hK7)
    have HSE:Hid (SeeI w.heap.size B nb w7 s' (d' ++ [b]) v7):=h! ⟨(HV.out.flags.alloc _).kept HK7.out (by simp) (fun e=>HV.out.own.free _ e (by simp)),by rw [List.length_append,List.map_append];exact HO7.out,HV.out.len⟩
    have HKE:Hid (Kept [B] (.slice da d.length dc) v7 W w7):=h! ((HK.out.later ((Below.refl _ _).alloc (Nat.le_refl _) _)).trans (HK7.out.more (by simp)))
    have HWE:=h! (HK7.out.below HWA.out (by simp) (fun k hk=>(HAP.out.lt hk).2))
    go_ret
    exact ⟨s',d',v7,rfl,HST.out,HSE.out,HKE.out,HWE.out⟩
end
section
open Go.RowKit
set_option maxRecDepth 100000 in
theorem refOrder {w:World} {v:Value} {f:FuncD} (hv:FuncV w v f) (hf:formB f=true):Calls Tryz.prog 46 #[v] w fun e w' => ∃ ov O,e = .returned ov/\IsOrder f O/\Ints w' ov (natI O)/\Below w.heap.size w w':=by
 have HTO:=h! (fun (b:Nat) (x:BlockD) (h:f.blocks[b]? = some x)=>formB_to hf h)
 obtain ⟨hn1,hn2⟩:=formB_nb hf
 obtain ⟨ap,cp,ab,cb,rfl,hp,ha,hc,hB⟩:=hv.form
 obtain ⟨a2,c2,bb,bo,hbe,hbc,hbm,hbl,hba,hbx⟩:=blocks_parts hB
 cases hbe
 obtain ⟨np,hnp⟩ : ∃ np,np=f.params.length:=⟨_,rfl⟩
 obtain ⟨nb,hnb⟩ : ∃ nb,nb=f.blocks.length:=⟨_,rfl⟩
 rw [<-hnp]
 rw [<-hnb] at hbc hba hbl hn1 hn2 ⊢
 obtain ⟨rfl,hbw⟩:=hba hn1
 have HNB:=h! hnb
 have HBX:=h! hbx
 have hn0:(0:Int) <= (nb:Int):=by omega
 clear hp ha hc hB hv hbx hnp hnb hba hf
 generalize f.arrays=ar at *
 generalize f.cells=ce at *
 have hmk:=run_make_row' (P:=Tryz.prog) 126 4 (.bool false) 1 Tryz.underlying126 infoBool rfl .i64 .i64 nb (by omega) (by omega)
 go_enter Tryz.func46,Tryz.ntmps46
 go_upto_region 1 with (fail)
 have B1:Hid (Box (w.alloc (.cells #[.slice ap np cp,.int .i64 ar,.int .i64 ce,.slice (some ⟨bb,bo,none⟩) nb cb] 25)) (w.heap.size) #[.slice ap np cp,.int .i64 ar,.int .i64 ce,.slice (some ⟨bb,bo,none⟩) nb cb]):=h! (by simpa using (Box.new w #[.slice ap np cp,.int .i64 ar,.int .i64 ce,.slice (some ⟨bb,bo,none⟩) nb cb] 25))
 have HW:Hid (Below w.heap.size w (w.alloc (.cells #[.slice ap np cp,.int .i64 ar,.int .i64 ce,.slice (some ⟨bb,bo,none⟩) nb cb] 25))):=h! ((Below.refl _ _).alloc (Nat.le_refl _) _)
 generalize (w.alloc (.cells #[.slice ap np cp,.int .i64 ar,.int .i64 ce,.slice (some ⟨bb,bo,none⟩) nb cb] 25))=wv at *
 obtain ⟨lB1,cB1,fB1⟩:=B1.out
 refine wp_region_grow 5 (fun kz=>match kz with | 4=>.made wv.heap.size (fun b=>.slice (some ⟨b,0,none⟩) nb nb) (madeCells #[.bool false] nb) | _=>.plain) (by kernel_rfl) (by kernel_rfl) ?_ (fun ν => ?_)
 ·(intro k;(try dsimp only);split <;> first | exact True.intro | (intro u w1 w2 hu hb;exact hu.below hb))
 simp only [List.take_succ_cons,List.take_zero,List.drop_succ_cons,List.drop_zero]
 iterate 4 (refine Grow.val (v := ?_) rfl rfl (fun wg hbg hdg => ?_) ?_;rotate_left;(focus ((obtain ⟨lg0,cg0,fg0⟩:=B1.out.later hbg);clear hbg hdg;first | (go_simp;done) | (go_simp;with_reducible rfl)));simp only [Act.put,List.setIfInBounds_toArray,List.set_cons_zero,List.set_cons_succ])
 refine Grow.made (T := ?_) rfl rfl (fun wg hbg hdg => ?_) ?_
 rotate_left
 focus ((obtain ⟨lg0,cg0,fg0⟩:=B1.out.later hbg);clear hbg hdg;first | (go_simp;done) | (go_simp;with_reducible rfl))
 simp only [Act.put,Known.val,List.setIfInBounds_toArray,List.set_cons_zero,List.set_cons_succ]
 intro wg hb hf hap
 obtain ⟨bBF,hνBF,hBBF,hXBF⟩:=hf 4 (by omega)
 have nBFB1:bBF ≠ w.heap.size:=fun e=>by have:=lB1;omega
 have nB1BF:w.heap.size ≠ bBF:=fun e=>nBFB1 e.symm
 simp only [hνBF]
 clear hνBF
 clear hap
 have gBF:=Nat.le_trans HW.out.size hBBF
 clear hBBF
 clear lB1 cB1 fB1
 replace B1:=h! (B1.out.later hb)
 replace HW:=h! (HW.out.trans (hb.mono HW.out.size))
 clear hb
 have BF:=h! hXBF
 clear hXBF
 obtain ⟨lB1,cB1,fB1⟩:=B1.out
 obtain ⟨lBF,cBF,fBF⟩:=BF.out
 clear hf hmk
 have HSEE:Hid (SeeI w.heap.size bBF nb wg (List.replicate nb false) [] (.slice none 0 0)):=h! ⟨by have:=BF.out;rwa [flags_made] at this,Own.nil,by simp⟩
 have HVC:=h! (refVisit (w:=w) (f:=f) (ap:=ap) (np:=np) (cp:=cp) (ar:=ar) (ce:=ce) HNB.out hbc hbm hbw hn2 HBX.out (fun j x h t ht=>by rw [HNB.out];exact HTO.out j x h t ht) (B:=bBF) gBF nb wg (List.replicate nb false) [] (.slice none 0 0) 0 (by rw [List.count_replicate_self];exact Nat.le_refl _) (by rw [List.count_replicate_self];simp only [List.length_nil];omega) HSEE.out HW.out (by rw [List.getElem?_replicate,if_pos (by omega)]))
 clear lB1 cB1 fB1 lBF cBF fBF
 go_wp2_with fail
 refine HVC.out.mono ?_
 rintro e w5 ⟨s',d',dv,rfl,hst,hse,hK,hW5⟩
 obtain ⟨O,hO⟩ : ∃ O,O=(d' ++ [0]).reverse:=⟨_,rfl⟩
 have hOr:O.reverse=d' ++ [0]:=by rw [hO,List.reverse_reverse]
 have HIO:Hid (IsOrder f O):=h! ⟨s',by
  rw [hOr, <-HNB.out]
  exact .go (by rw [List.getElem?_replicate,if_pos (by omega)]) hst (.nil _ _)⟩
 obtain ⟨-, -,hOb, -, -⟩:=HIO.out.facts
 have hOl:=HIO.out.le
 obtain ⟨m,hm⟩ : ∃ m,m=O.length:=⟨_,rfl⟩
 have hmd:(d' ++ [0]).length=m:=by rw [<-hOr,List.length_reverse, <-hm]
 have hmn:m <= nb:=by rw [hm,HNB.out];exact hOl
 have hown:=hse.own.row
 have hI:Ints w5 dv (natI (d' ++ [0])):=by
  refine Ints.of_own (base:=w.heap.size) (e:=3) ?_ (by rw [natI_len,hmd];omega) (natI_64 fun b hb=>by have:=hOb b (by rw [<-List.mem_reverse,hOr];exact hb);have:=HNB.out;omega)
  rw [natI_len]
  have e9:(natI (d' ++ [0])).map (Value.int .i64)=(d' ++ [0]).map fun x:Nat=>Value.int .i64 x:=by unfold natI;rw [List.map_map];rfl
  rw [e9];exact hown
 obtain ⟨D,hD⟩ : ∃ D,D=natI (d' ++ [0]):=⟨_,rfl⟩
 rw [<-hD] at hI
 have hDl:m=D.length:=by rw [hD,natI_len,hmd]
 have HRV:Hid (D.reverse=natI O):=h! (by rw [hD];unfold natI;rw [<-List.map_reverse, <-hO])
 obtain ⟨ia,ic,ib,io,rfl,hic,him,hia,hix⟩:=hI.parts
 rw [<-hDl] at hic hia ⊢
 have HIX:=h! hix
 have HIA:=h! hia
 have HDL:=h! hDl
 replace HW:=h! hW5
 have HO64:=h! hI.2
 clear hst hse hK hW5 hO hOr hOb hOl hm hmd hown hI hD hDl hix hia HVC HSEE BF B1 gBF
 go_wp2_with fail
 have HO:Hid (Own (w5.alloc (.cells #[] 3)) w5.heap.size [] 3 1 (.slice (some ⟨w5.heap.size,0,none⟩) 0 0) 0 []):=h! (own_none (Nat.le_refl _) (by simp) 1)
 have HW2:=h! ((Below.refl w5.heap.size w5).alloc (Nat.le_refl _) (.cells #[] 3))
 generalize w5.alloc _=wa at *
 go_loopw [4,5] (fun u i wr => ∃ q:Nat,q <= m/\i = .int .i64 ((q:Int) - 1)/\Own wr w5.heap.size [] 3 1 u (m - q) ((D.reverse.take (m - q)).map (.int .i64))/\Below w5.heap.size w5 wr) (fun _ i _=>(intOf i+1).toNat)
 case atStart=>exact ⟨m,Nat.le_refl _,rfl,by rw [Nat.sub_self];exact HO.out,HW2.out⟩
 case round =>
  obtain ⟨q,hq,rfl,hO,hW2⟩:=hrel
  obtain ⟨oa,oc,rfl⟩:=hO.form
  replace HO:=h! hO
  replace HW2:=h! hW2
  clear hO hW2
  by_cases hlt:0 < q
  ·obtain ⟨p,rfl⟩ : ∃ p,q=p+1:=⟨q - 1,by omega⟩
   rw [show (((p+1:Nat):Int) - 1)=(p:Int) by omega]
   obtain ⟨rfl,hib⟩:=HIA.out (by omega)
   have hci:=(HW2.out.cell (p:=⟨ib,io+p,none⟩) hib).trans (HIX.out p (by have:=HDL.out;omega))
   have HSN:Hid (D.reverse.take (m - p)=D.reverse.take (m - (p+1)) ++ [D.getD p 0]):=h! (by
    rw [show m - p=(m - (p+1))+1 by omega]
    refine take_snoc _ _ _ ?_
    have h1:=HDL.out
    rw [List.getElem?_reverse (by omega),show D.length - 1 - (m - (p+1))=p by omega]
    exact list_at _ _ (by omega))
   generalize D.getD p 0=y at *
   have hs2:=HW2.out.size
   have HK:Hid (m - p=m - (p+1)+1):=h! (by omega)
   have hk9:m - (p+1) <= 512:=by omega
   generalize m - (p+1)=k9 at *
   go_wp2_with (at_builtin;refine wpList_own rfl _ _ 22 3 rfl elInt rfl rfl (HO.out.alloc _) (Row.of_box (n:=1) (size:=1) (Box.new _ _ _) rfl (by omega)) (by simp [Value.oneCell']) (by unfold maxLen;omega) (by omega) (by simp;omega) (by intro b hb;simp at hb) ?_;intro v3 w3 hO3 hBs3 hB3;have HO3:=h! hO3;have HB3:=h! hB3;clear hO3 hBs3 hB3)
   go_roundw
   case rel=>exact ⟨p,by omega,by go_num,by rw [HSN.out,List.map_append,HK.out];exact HO3.out,(HW2.out.alloc hs2 _).trans HB3.out⟩
   case measure=>simp [intOf] <;> omega
  ·obtain rfl:q=0:=by omega
   have HRES:Hid (Ints wr (.slice oa m oc) (natI O)):=h! (by
    have h1:=HO.out
    rw [Nat.sub_zero,List.take_of_length_le (by rw [List.length_reverse];have:=HDL.out;omega)] at h1
    have h2:D.reverse.length=m:=by rw [List.length_reverse,HDL.out]
    have h3:=Ints.of_own (xs:=D.reverse) (by rw [h2];exact h1.row) (by omega) (fun x hx=>HO64.out x (List.mem_reverse.1 hx))
    rw [<-HRV.out];exact h3)
   have HWW:=h! (HW.out.trans (HW2.out.mono HW.out.size))
   go_wp2
   go_ret
   exact ⟨_,O,rfl,HIO.out,HRES.out,HWW.out⟩
end
end Go.Proofs.YtgmhnepmkaonaaaGreat
