/- Part 31. -/
import Derived.Test.YtgmhnepmkaonaaaGreatQA30
import Derived.Test.YtgmhnepmkaonaaaGreatQA28
namespace Go.Proofs.YtgmhnepmkaonaaaGreat
private theorem h! {p : Prop} (h : p) : Go.RowKit.Hid p := Go.Lib.hid h
set_option maxHeartbeats 6400000
set_option linter.unusedSimpArgs false
set_option linter.unusedVariables false
section
open Go.RowKit
def OverP (f:FuncD) (a b:Nat):Prop:=Way (toB f) (-1) a/\Way (toB f) (-1) b /\ ¬ Way (toB f) (a:Int) b
def DOpenR (f:FuncD) (v:Value) (w:World) (e:Ending) (w' : World):Prop :=
 Below w.heap.size w w' /\ ((checkF f ≠ 0/\e = .returned (.tuple #[.pointer none,.int .i64 (checkF f)])) \/
  (checkF f=0 /\ ∃ (bt bg lg lcap:Nat) (g:Array Value) (pv ov lv:Value) (O:List Nat) (I:Nat -> Option Nat),e = .returned (.tuple #[.pointer (some ⟨bt,0,none⟩),.int .i64 0])/\v = .agg g/\IsOrder f O/\TreeM f w' bt bg lg lcap g pv ov lv O I/\DomI f O I))
theorem domOpen {w:World} {v:Value} {f:FuncD} (hv:FuncV w v f):Calls Tryz.prog 95 #[v] w (DOpenR f v w):=by
 have HV:=h! hv
 obtain ⟨ap,cp,ab,cb,rfl,hp,ha,hc,hB⟩:=hv.form
 clear hp ha hc hB hv
 go_enter Tryz.func95,Tryz.ntmps95
 go_upto_region 1 with (fail)
 have B1:Hid (Box (w.alloc (.cells #[.slice ap f.params.length cp,.int .i64 f.arrays,.int .i64 f.cells,.slice ab f.blocks.length cb] 25)) (w.heap.size) #[.slice ap f.params.length cp,.int .i64 f.arrays,.int .i64 f.cells,.slice ab f.blocks.length cb]):=h! (by simpa using (Box.new w #[.slice ap f.params.length cp,.int .i64 f.arrays,.int .i64 f.cells,.slice ab f.blocks.length cb] 25))
 have HW:Hid (Below w.heap.size w (w.alloc (.cells #[.slice ap f.params.length cp,.int .i64 f.arrays,.int .i64 f.cells,.slice ab f.blocks.length cb] 25))):=h! ((Below.refl _ _).alloc (Nat.le_refl _) _)
 generalize (w.alloc (.cells #[.slice ap f.params.length cp,.int .i64 f.arrays,.int .i64 f.cells,.slice ab f.blocks.length cb] 25))=wv at *
 obtain ⟨lB1,cB1,fB1⟩:=B1.out
 go_wp2_with fail
 refine (graphOpen (HV.out.below HW.out)).mono ?_
 rintro e w2 ⟨hb,⟨hc0,rfl⟩ | ⟨hc0,bg,O,rfl,hO,hG⟩⟩
 ·have hc1:(checkF f != 0)=true:=by simpa using hc0
  have HC0:=h! hc0
  clear hc0
  clear lB1 cB1 fB1
  replace B1:=h! (B1.out.later hb)
  replace HW:=h! (HW.out.trans (hb.mono HW.out.size))
  clear hb
  obtain ⟨lB1,cB1,fB1⟩:=B1.out
  go_wp2
  go_ret2
  exact ⟨HW.out,.inl ⟨HC0.out,rfl⟩⟩
 ·have HC0:=h! hc0
  have HO:=h! hO
  have HG:=h! hG
  clear hc0 hO hG
  clear lB1 cB1 fB1
  replace B1:=h! (B1.out.later hb)
  replace HW:=h! (HW.out.trans (hb.mono HW.out.size))
  clear hb
  obtain ⟨lB1,cB1,fB1⟩:=B1.out
  go_wp2_with fail
  refine (domNew (HV.out.below HW.out) HG.out HO.out (check_fine HC0.out).1).mono ?_
  rintro e w3 ⟨bt,lg,lcap,g,pv,ov,lv,I,rfl,hvg,hT,hD,hb⟩
  have HT:=h! hT
  have HD:=h! hD
  have HVG:=h! hvg
  clear hT hD hvg
  clear lB1 cB1 fB1
  replace B1:=h! (B1.out.later hb)
  replace HW:=h! (HW.out.trans (hb.mono HW.out.size))
  clear hb
  obtain ⟨lB1,cB1,fB1⟩:=B1.out
  go_wp2
  go_ret2
  exact ⟨HW.out,.inr ⟨HC0.out,bt,bg,lg,lcap,g,pv,ov,lv,O,I,rfl,HVG.out,HO.out,HT.out,HD.out⟩⟩
theorem treeOver {W:World} {f:FuncD} {bt bg lg lcap:Nat} {g:Array Value} {pv ov lv:Value} {O:List Nat} {I:Nat -> Option Nat} (hT:TreeM f W bt bg lg lcap g pv ov lv O I) (hO:IsOrder f O) (hI:DomI f O I) (h512:f.blocks.length <= 512)
  {a b:Nat} (ha:a < f.blocks.length) (hb:b < f.blocks.length) :
  Calls Tryz.prog 76 #[.pointer (some ⟨bt,0,none⟩),.int .i64 a,.int .i64 b] W fun e w' => ∃ r:Bool,e = .returned (.bool r)/\(r=true ↔ OverP f a b)/\W=w':=by
 obtain ⟨hc0,hc1, -, -,hc6⟩:=hT.cells
 obtain ⟨pa,pc,pb,po,hpe,hpc,hpm,hpa,hpx⟩:=hT.place.parts
 rw [placeI_len] at hpe hpc hpa
 subst hpe
 obtain ⟨lc2, -, -, -,hil,hif⟩:=hT.idom.form
 obtain ⟨h1,h2,h3,h4,h5⟩:=hO.facts
 obtain ⟨nb,hnb⟩ : ∃ nb,nb=f.blocks.length:=⟨_,rfl⟩
 have hda:=hpx a (by rw [placeI_len];exact ha)
 have hdb:=hpx b (by rw [placeI_len];exact hb)
 rw [List.getD_eq_getElem?_getD,placeI_at ha,Option.getD_some] at hda
 rw [List.getD_eq_getElem?_getD,placeI_at hb,Option.getD_some] at hdb
 rw [<-hnb] at hc1 hpc hpa hil h512 h3 hc6 ha hb
 obtain ⟨rfl,hpb⟩:=hpa (by omega)
 have HIL:=h! hil
 have HTR:=h! hI.tree
 have HPR:=h! (fun (v:Nat) (h:Way (toB f) (-1) v)=>hI.proc h)
 have HAN:=h! (fun (c v:Nat) (h:Way (toB f) (-1) v)=>hI.anc (c:=c) h)
 have HO2:=h! h2
 have HO3:=h! h3
 clear hT hpx hil hif h1 h3 h4 h5 hI hO hnb hpa
 by_cases haO:a ∈ O
 ·rw [if_pos haO] at hda
  have hna:decide (((O.idxOf a:Nat):Int) < 0)=false:=by simp
  by_cases hbO:b ∈ O
  ·rw [if_pos hbO] at hdb
   have hnb:decide (((O.idxOf b:Nat):Int) < 0)=false:=by simp
   have HAW:=h! ((h2 a).1 haO)
   have HBW:=h! ((h2 b).1 hbO)
   clear h2 haO hbO
   go_enter Tryz.func76,Tryz.ntmps76
   go_wp2_with fail
   clear hda hdb hna hnb
   go_loopw [2] (fun u wr => ∃ b' : Nat,u = .int .i64 b' /\ Way (toB f) (-1) b' /\ (Anc I a b' ↔ Anc I a b)/\W=wr) (fun u _=>O.idxOf (intOf u).toNat)
   case atStart=>exact ⟨b,rfl,HBW.out,Iff.rfl,rfl⟩
   case round =>
    obtain ⟨c,rfl,hcw,hci,rfl⟩:=hrel
    have HCW:=h! hcw
    have HCI:=h! hci
    have hcl:=HO3.out c ((HO2.out c).2 hcw)
    clear hcw hci
    by_cases hca:c=a
    ·have hq:((c:Int) != (a:Int))=false:=by simp [hca]
     have hq2:((a:Int) == (c:Int))=true:=by simp [hca]
     have HR:Hid (OverP f a b):=h! ⟨HAW.out,HBW.out,(HAN.out a b HBW.out).1 (HCI.out.1 (by rw [hca];exact .refl))⟩
     have HQ2:=h! hq2
     clear hca hq2
     go_wp2
     go_ret
     refine ⟨_,rfl, ?_, ?_⟩
     ·first | exact ⟨fun _=>HR.out,fun _=>HQ2.out⟩ | simp [HR.out]
     ·first | rfl | trivial
    ·have hq:((c:Int) != (a:Int))=true:=by simp;omega
     by_cases hc00:c=0
     ·have hq2:((a:Int) == (c:Int))=false:=by simp;omega
      have HQ2:=h! hq2
      clear hq2
      have HR:Hid (¬ OverP f a b):=h! (fun h=>by
       have h9:=HCI.out.2 ((HAN.out a b HBW.out).2 h.2.2)
       rw [hc00] at h9
       exact hca (by rw [hc00,HTR.out.anc_zero h9]))
      have hcn:¬ 0 < c:=by omega
      clear hca hc00
      go_wp2
      go_ret
      refine ⟨_,rfl, ?_, ?_⟩
      ·first | exact ⟨fun h=>absurd (HQ2.out.symm.trans h) (by simp),fun h=>absurd h HR.out⟩ | simp [HR.out]
      ·first | rfl | trivial
     ·have hgt:0 < c:=by omega
      obtain ⟨p,hp⟩:=Option.isSome_iff_exists.1 ((HPR.out c HCW.out).resolve_left hc00)
      obtain ⟨p1,p2,p3,p4⟩:=HTR.out.par hp
      have dp:=HIL.out c p (encI_some hcl hp)
      have HP2:=h! p2
      have HP3:=h! p3
      have HAP:Hid (Anc I a p ↔ Anc I a b):=h! (by
       rw [<-HCI.out]
       constructor
       ·exact fun h=>.up hp h
       ·intro h
        rcases h.parts with e | ⟨q,e,h⟩
        ·exact absurd e.symm hca
        ·rw [hp] at e;cases e;exact h)
      clear hca hc00 hp p1 p2 p3 p4
      go_wp2
      go_roundw
      case rel=>exact ⟨p,rfl,HP2.out,HAP.out,by first | rfl | trivial⟩
      case measure =>
       have h9:=HP3.out
       simp only [intOf,Int.toNat_natCast] at h9 ⊢
       exact h9
  ·rw [if_neg hbO] at hdb
   have HN:Hid (¬ OverP f a b):=h! (fun h=>hbO ((h2 b).2 h.2.1))
   clear h2 haO hbO
   go_enter Tryz.func76,Tryz.ntmps76
   go_wp2
   go_ret
   exact ⟨false,rfl,by simpa using HN.out,rfl⟩
 ·rw [if_neg haO] at hda
  have HN:Hid (¬ OverP f a b):=h! (fun h=>haO ((h2 a).2 h.1))
  clear h2 haO
  go_enter Tryz.func76,Tryz.ntmps76
  go_wp2
  go_ret
  exact ⟨false,rfl,by simpa using HN.out,rfl⟩
end
section
open Go.RowKit
end
section
open Go.RowKit
end
inductive Body (tos:Nat -> List Nat) (h:Nat) (L:Nat -> Prop):Nat -> Prop
 | head:Body tos h L h
 | latch {p:Nat}:L p -> Body tos h L p
 | step {p b:Nat}:Body tos h L b -> b ≠ h -> b ∈ tos p -> Body tos h L p
section
variable {tos:Nat -> List Nat}
end
structure LoopD where
 head:Nat
 blocks:List Nat
 latches:List Nat
 exits:List Nat
 parent:Int
section
open Classical
noncomputable def latN (f:FuncD) (h:Nat):List Nat:=(predN f f.blocks.length 0 h).filter fun p=>decide (OverP f h p)
def InL (f:FuncD) (h b:Nat):Prop:=Body (toB f) h (· ∈ latN f h) b
noncomputable def bodyN (f:FuncD) (h:Nat):List Nat:=(List.range f.blocks.length).filter fun b=>decide (InL f h b)
noncomputable def exitN (f:FuncD) (h:Nat):List Nat:=(List.range f.blocks.length).filter fun t=>decide (¬ InL f h t /\ ∃ b,InL f h b/\t ∈ toB f b)
noncomputable def headsN (f:FuncD):List Nat:=(List.range f.blocks.length).filter fun h => !(latN f h).isEmpty
end
noncomputable def loopOf (f:FuncD) (h:Nat):LoopD:=⟨h,bodyN f h,latN f h,exitN f h,0⟩
noncomputable def loops0 (f:FuncD):List LoopD:=(headsN f).map (loopOf f)
def withinB (ls:List LoopD) (i j:Nat):Bool:=match ls[i]?,ls[j]? with
 | some a,some b=>a.blocks.all fun x=>b.blocks.contains x
 | _,_=>false
def sizeL (ls:List LoopD) (j:Nat):Nat:=match ls[j]? with | some b=>b.blocks.length | none=>0
def parStep (ls:List LoopD) (i:Nat) (best:Int) (j:Nat):Int :=
 if j ≠ i/\withinB ls i j=true/\(best < 0 \/ sizeL ls j < sizeL ls best.toNat) then (j:Int) else best
def parentN (ls:List LoopD) (i:Nat):Int:=(List.range ls.length).foldl (parStep ls i) (-1)
noncomputable def loopsF (f:FuncD):List LoopD:=(loops0 f).mapIdx fun i l => { l with parent:=parentN (loops0 f) i }
theorem toB_lt {f:FuncD} {p b:Nat} (h:b ∈ toB f p):p < f.blocks.length:=by
 refine Classical.byContradiction fun hn => ?_
 unfold toB at h
 rw [List.getD_eq_getElem?_getD,List.getElem?_eq_none (by omega)] at h
 cases h
theorem mem_latN {f:FuncD} {h p:Nat}:p ∈ latN f h ↔ h ∈ toB f p/\OverP f h p:=by
 unfold latN
 rw [List.mem_filter,predN_zero,List.mem_filter,List.mem_range]
 simp only [List.contains_iff_mem,decide_eq_true_eq]
 exact ⟨fun h=>⟨h.1.2,h.2⟩,fun h=>⟨⟨toB_lt h.1,h.1⟩,h.2⟩⟩
theorem InL.lt {f:FuncD} {h b:Nat} (hh:h < f.blocks.length) (k:InL f h b):b < f.blocks.length:=by
 induction k with
 | head=>exact hh
 | latch hp=>exact toB_lt (mem_latN.1 hp).1
 | step _ _ ht _=>exact toB_lt ht
theorem mem_bodyN {f:FuncD} {h b:Nat} (hh:h < f.blocks.length):b ∈ bodyN f h ↔ InL f h b:=by
 unfold bodyN
 rw [List.mem_filter,List.mem_range]
 simp only [decide_eq_true_eq]
 exact ⟨fun h=>h.2,fun h=>⟨h.lt hh,h⟩⟩
theorem bodyN_nodup (f:FuncD) (h:Nat):(bodyN f h).Nodup:=List.Pairwise.filter _ List.nodup_range
theorem mem_headsN {f:FuncD} {h:Nat}:h ∈ headsN f ↔ h < f.blocks.length/\latN f h ≠ []:=by
 unfold headsN
 rw [List.mem_filter,List.mem_range]
 simp
theorem loops0_at {f:FuncD} {i:Nat} {l:LoopD} (h:(loops0 f)[i]? = some l):l=loopOf f l.head/\(headsN f)[i]? = some l.head:=by
 unfold loops0 at h
 rw [List.getElem?_map] at h
 cases hx:(headsN f)[i]? with
 | none=>rw [hx] at h;cases h
 | some y=>rw [hx] at h;cases h;exact ⟨rfl,rfl⟩
theorem nodup_within:∀ {a b:List Nat},a.Nodup -> (∀ x ∈ a,x ∈ b) -> a.length <= b.length
 | [],_,_,_=>Nat.zero_le _
 | x :: a,b,ha,h=>by
  obtain ⟨h1,h2⟩:=List.nodup_cons.1 ha
  have hx:=h x (by simp)
  have:=nodup_within (b:=b.erase x) h2 fun y hy=>(List.mem_erase_of_ne (fun e=>h1 (by rw [<-e];exact hy))).2 (h y (List.mem_cons_of_mem _ hy))
  rw [List.length_erase_of_mem hx] at this
  have:=List.length_pos_of_mem hx
  rw [List.length_cons]
  omega
theorem parent_fold {ls:List LoopD} {i:Nat}:∀ (n:Nat),n <= ls.length -> let p:=(List.range n).foldl (parStep ls i) (-1);p = -1 \/ (0 <= p/\p < n/\p.toNat ≠ i/\withinB ls i p.toNat=true)
 | 0,_=>.inl rfl
 | n+1,hn=>by
  have ih:=parent_fold (ls:=ls) (i:=i) n (by omega)
  simp only [List.range_succ,List.foldl_append,List.foldl_cons,List.foldl_nil] at ih ⊢
  obtain ⟨p,hp⟩ : ∃ p,p=(List.range n).foldl (parStep ls i) (-1):=⟨_,rfl⟩
  rw [<-hp] at ih ⊢
  unfold parStep
  split
  ·rename_i h
   exact .inr ⟨by omega,by omega,by simpa using h.1,by simpa using h.2.1⟩
  ·rcases ih with h | h
   ·exact .inl h
   ·exact .inr ⟨h.1,by omega,h.2.2⟩
theorem loopsF_at {f:FuncD} {i:Nat} {l:LoopD} (h:(loopsF f)[i]? = some l):l = { loopOf f l.head with parent:=parentN (loops0 f) i } /\ (headsN f)[i]? = some l.head/\(loops0 f)[i]? = some (loopOf f l.head):=by
 unfold loopsF at h
 rw [List.getElem?_mapIdx] at h
 cases hx:(loops0 f)[i]? with
 | none=>rw [hx] at h;cases h
 | some y =>
  rw [hx] at h
  cases h
  obtain ⟨h1,h2⟩:=loops0_at hx
  refine ⟨?_,h2,by rw [<-h1]⟩
  obtain ⟨a,b,c,d,e⟩:=y
  injection h1 with _ q1 q2 q3 _
  show (⟨a,b,c,d,_⟩ : LoopD)=⟨a,bodyN f a,latN f a,exitN f a,_⟩
  rw [q1,q2,q3]
theorem loopsF_len (f:FuncD):(loopsF f).length=(headsN f).length:=by unfold loopsF loops0;rw [List.length_mapIdx,List.length_map]
theorem loops0_len (f:FuncD):(loops0 f).length=(headsN f).length:=by unfold loops0;rw [List.length_map]
structure WorkI (f:FuncD) (h:Nat) (S:List Bool) (pend:List Nat):Prop where
 len:S.length=f.blocks.length
 hd:S[h]? = some true
 sound:∀ b:Nat,S[b]? = some true -> InL f h b
 psound:∀ b ∈ pend,InL f h b
 closed:∀ b p:Nat,S[b]? = some true -> b ≠ h -> b ∈ toB f p -> S[p]? = some true \/ p ∈ pend
 lat:∀ p ∈ latN f h,S[p]? = some true \/ p ∈ pend
def workM (f:FuncD) (S:List Bool) (pend:List Nat):Nat:=S.count false * (f.blocks.length+1)+pend.length
theorem predN_len (f:FuncD) (b:Nat):(predN f f.blocks.length 0 b).length <= f.blocks.length:=by
 rw [predN_zero]
 exact Nat.le_trans (List.length_filter_le _ _) (by rw [List.length_range];exact Nat.le_refl _)
theorem latN_len (f:FuncD) (h:Nat):(latN f h).length <= f.blocks.length:=Nat.le_trans (List.length_filter_le _ _) (predN_len f h)
theorem WorkI.start {f:FuncD} {h:Nat} (hh:h < f.blocks.length):WorkI f h ((List.replicate f.blocks.length false).set h true) (latN f h):=by
 have only:∀ b:Nat,((List.replicate f.blocks.length false).set h true)[b]? = some true -> b=h:=fun b hb=>by
  rw [List.getElem?_set] at hb
  by_cases e:h=b
  ·exact e.symm
  ·rw [if_neg e,List.getElem?_replicate] at hb
   split at hb <;> simp at hb
 refine ⟨by simp,by simp [hh],fun b hb=>by rw [only b hb];exact .head,fun b hb=>.latch hb,fun b p hb hne _=>absurd (only b hb) hne,fun p hp=>.inr hp⟩
theorem workM_start {f:FuncD} {h:Nat} (h512:f.blocks.length <= 512):workM f ((List.replicate f.blocks.length false).set h true) (latN f h) <= 300000:=by
 unfold workM
 have h1:=latN_len f h
 have h2:((List.replicate f.blocks.length false).set h true).count false <= 512:=Nat.le_trans List.count_le_length (by simp;omega)
 have h3:((List.replicate f.blocks.length false).set h true).count false * (f.blocks.length+1) <= 512 * 513:=Nat.mul_le_mul h2 (by omega)
 omega
theorem WorkI.old {f:FuncD} {h b:Nat} {S:List Bool} {ps:List Nat} (w:WorkI f h S (ps ++ [b])) (hb:S[b]? = some true):WorkI f h S ps:=by
 refine ⟨w.len,w.hd,w.sound,fun x hx=>w.psound x (List.mem_append_left _ hx),fun x p hx hne ht => ?_,fun p hp => ?_⟩
 ·rcases w.closed x p hx hne ht with k | k
  ·exact .inl k
  ·rcases List.mem_append.1 k with k | k
   ·exact .inr k
   ·obtain rfl:p=b:=by simpa using k
    exact .inl hb
 ·rcases w.lat p hp with k | k
  ·exact .inl k
  ·rcases List.mem_append.1 k with k | k
   ·exact .inr k
   ·obtain rfl:p=b:=by simpa using k
    exact .inl hb
theorem workM_old {f:FuncD} {b:Nat} {S:List Bool} {ps:List Nat}:workM f S ps+1=workM f S (ps ++ [b]):=by unfold workM;rw [List.length_append];rfl
theorem WorkI.new {f:FuncD} {h b:Nat} {S:List Bool} {ps:List Nat} (w:WorkI f h S (ps ++ [b])) (hb:S[b]? = some false):WorkI f h (S.set b true) (ps ++ predN f f.blocks.length 0 b):=by
 have hbl:=(List.getElem?_eq_some_iff.1 hb).1
 have hin:InL f h b:=w.psound b (by simp)
 have hbh:b ≠ h:=fun e=>by rw [e,w.hd] at hb;cases hb
 have hset:∀ x:Nat,(S.set b true)[x]? = some true ↔ (x=b \/ S[x]? = some true):=fun x=>by
  rw [List.getElem?_set]
  by_cases e:b=x
  ·subst e;simp [hbl]
  ·rw [if_neg e]
   exact ⟨.inr,fun k=>k.resolve_left (fun e2=>e e2.symm)⟩
 have hp:∀ p:Nat,b ∈ toB f p -> p ∈ predN f f.blocks.length 0 b:=fun p hp=>by
  rw [predN_zero,List.mem_filter,List.mem_range]
  exact ⟨toB_lt hp,by simpa using hp⟩
 refine ⟨by rw [List.length_set];exact w.len,(hset h).2 (.inr w.hd),fun x hx => ?_,fun x hx => ?_,fun x p hx hne ht => ?_,fun p hp2 => ?_⟩
 ·rcases (hset x).1 hx with rfl | k
  ·exact hin
  ·exact w.sound x k
 ·rcases List.mem_append.1 hx with k | k
  ·exact w.psound x (List.mem_append_left _ k)
  ·rw [predN_zero,List.mem_filter] at k
   exact .step hin hbh (by simpa using k.2)
 ·rcases (hset x).1 hx with rfl | k
  ·exact .inr (List.mem_append_right _ (hp p ht))
  ·rcases w.closed x p k hne ht with q | q
   ·exact .inl ((hset p).2 (.inr q))
   ·rcases List.mem_append.1 q with q | q
    ·exact .inr (List.mem_append_left _ q)
    ·obtain rfl:p=b:=by simpa using q
     exact .inl ((hset p).2 (.inl rfl))
 ·rcases w.lat p hp2 with q | q
  ·exact .inl ((hset p).2 (.inr q))
  ·rcases List.mem_append.1 q with q | q
   ·exact .inr (List.mem_append_left _ q)
   ·obtain rfl:p=b:=by simpa using q
    exact .inl ((hset p).2 (.inl rfl))
theorem workM_new {f:FuncD} {b:Nat} {S:List Bool} {ps:List Nat} (hb:S[b]? = some false):workM f (S.set b true) (ps ++ predN f f.blocks.length 0 b)+1 <= workM f S (ps ++ [b]):=by
 unfold workM
 have h1:=count_set hb
 have h2:=predN_len f b
 rw [<-h1,List.length_append,List.length_append,Nat.add_mul]
 simp only [List.length_cons,List.length_nil,Nat.one_mul]
 omega
theorem WorkI.done {f:FuncD} {h:Nat} {S:List Bool} (hh:h < f.blocks.length) (w:WorkI f h S []) (b:Nat):S[b]? = some true ↔ InL f h b:=by
 refine ⟨w.sound b,fun k => ?_⟩
 induction k with
 | head=>exact w.hd
 | latch hp=>exact (w.lat _ hp).resolve_right (by simp)
 | step _ hne ht ih=>exact (w.closed _ _ ih hne ht).resolve_right (by simp)
theorem WorkI.body {f:FuncD} {h:Nat} {S:List Bool} (hh:h < f.blocks.length) (w:WorkI f h S []):(List.range f.blocks.length).filter (fun b=>S.getD b false)=bodyN f h:=by
 unfold bodyN
 refine List.filter_congr fun b hb => ?_
 have hbl:=List.mem_range.1 hb
 have h1:=w.done hh b
 rw [Bool.eq_iff_iff]
 simp only [decide_eq_true_eq]
 rw [<-h1,List.getD_eq_getElem?_getD]
 cases hx:S[b]? with
 | none=>simp
 | some c=>simp
theorem rise_same:∀ {a b:List Nat},a.Pairwise (· < ·) -> b.Pairwise (· < ·) -> (∀ x,x ∈ a ↔ x ∈ b) -> a=b
 | [],[],_,_,_=>rfl
 | [],y :: b,_,_,h=>absurd ((h y).2 (by simp)) (by simp)
 | x :: a,[],_,_,h=>absurd ((h x).1 (by simp)) (by simp)
 | x :: a,y :: b,ha,hb,h=>by
  obtain ⟨a1,a2⟩:=List.pairwise_cons.1 ha
  obtain ⟨b1,b2⟩:=List.pairwise_cons.1 hb
  have e:x=y:=by
   rcases List.mem_cons.1 ((h x).1 (by simp)) with e | e
   ·exact e
   ·rcases List.mem_cons.1 ((h y).2 (by simp)) with k | k
    ·exact k.symm
    ·have:=a1 y k;have:=b1 x e;omega
  subst e
  congr 1
  refine rise_same a2 b2 fun z=>⟨fun hz => ?_,fun hz => ?_⟩
  ·rcases List.mem_cons.1 ((h z).1 (List.mem_cons_of_mem _ hz)) with k | k
   ·subst k;have:=a1 z hz;omega
   ·exact k
  ·rcases List.mem_cons.1 ((h z).2 (List.mem_cons_of_mem _ hz)) with k | k
   ·subst k;have:=b1 z hz;omega
   ·exact k
def insN (xs:List Nat) (t:Nat):List Nat:=xs.take (xs.countP (· < t)) ++ t :: xs.drop (xs.countP (· < t))
theorem natI_ins (xs:List Nat) (t i:Nat):natI (xs.take i ++ t :: xs.drop i)=insI (natI xs) i t:=by
 unfold natI insI
 rw [List.map_append,List.map_cons,List.map_take,List.map_drop]
theorem natI_count (xs:List Nat) (t:Nat):(natI xs).countP (· < (t:Int))=xs.countP (· < t):=by
 unfold natI
 rw [List.countP_map]
 refine List.countP_congr fun x _ => ?_
 simp
theorem natI_has (xs : List Nat) (t : Nat) : (natI xs).contains (t : Int) = xs.contains t := by
  unfold natI
  rw [Bool.eq_iff_iff]
  simp only [List.contains_iff_mem, List.mem_map]
  exact ⟨fun ⟨a, h1, h2⟩ => by have : a = t := by omega
                               rwa [← this], fun h => ⟨t, h, rfl⟩⟩
theorem natI_rise {xs:List Nat} (h:xs.Pairwise (· < ·)):(natI xs).Pairwise (· < ·):=by
 unfold natI
 exact List.pairwise_map.2 (h.imp (fun h=>by omega))
theorem count_split:∀ {xs:List Nat} {t:Nat},xs.Pairwise (· < ·) -> (∀ x ∈ xs.take (xs.countP (· < t)),x < t)/\(∀ x ∈ xs.drop (xs.countP (· < t)),t <= x)
 | [],t,_=>⟨by simp,by simp⟩
 | y :: xs,t,h=>by
  obtain ⟨h1,h2⟩:=List.pairwise_cons.1 h
  obtain ⟨k1,k2⟩:=count_split (t:=t) h2
  by_cases hy:y < t
  ·rw [List.countP_cons_of_pos (by simpa using hy),List.take_succ_cons,List.drop_succ_cons]
   exact ⟨fun x hx=>by
    rcases List.mem_cons.1 hx with rfl | hx
    ·exact hy
    ·exact k1 x hx,k2⟩
  ·have h0:xs.countP (· < t)=0:=List.countP_eq_zero.2 fun x hx=>by have:=h1 x hx;simp;omega
   rw [List.countP_cons_of_neg (by simpa using hy),h0,List.take_zero,List.drop_zero]
   exact ⟨by simp,fun x hx=>by
    rcases List.mem_cons.1 hx with rfl | hx
    ·omega
    ·have:=h1 x hx;omega⟩
theorem insN_rise {xs:List Nat} {t:Nat} (h:xs.Pairwise (· < ·)) (ht:t ∉ xs):(insN xs t).Pairwise (· < ·):=by
 obtain ⟨k1,k2⟩:=count_split (t:=t) h
 unfold insN
 rw [List.pairwise_append]
 refine ⟨h.sublist (List.take_sublist _ _),List.pairwise_cons.2 ⟨fun x hx => ?_,h.sublist (List.drop_sublist _ _)⟩,fun x hx y hy => ?_⟩
 ·have h1:=k2 x hx
  have h2:x ≠ t:=fun e=>ht (e ▸ List.mem_of_mem_drop hx)
  omega
 ·have h1:=k1 x hx
  rcases List.mem_cons.1 hy with rfl | hy
  ·exact h1
  ·have:=k2 y hy;omega
theorem mem_insN {xs:List Nat} {t x:Nat}:x ∈ insN xs t ↔ x=t \/ x ∈ xs:=by
 unfold insN
 have:x ∈ xs ↔ x ∈ xs.take (xs.countP (· < t)) \/ x ∈ xs.drop (xs.countP (· < t)):=by
  rw [<-List.mem_append,List.take_append_drop]
 rw [List.mem_append,List.mem_cons,this]
 constructor
 ·rintro (h | h | h)
  ·exact .inr (.inl h)
  ·exact .inl h
  ·exact .inr (.inr h)
 ·rintro (h | h | h)
  ·exact .inr (.inl h)
  ·exact .inl h
  ·exact .inr (.inr h)
structure ExitI (f:FuncD) (h:Nat) (met:List Nat) (E:List Nat):Prop where
 rise:E.Pairwise (· < ·)
 mem:∀ t,t ∈ E ↔ t ∈ met /\ ¬ InL f h t
theorem ExitI.nil (f:FuncD) (h:Nat):ExitI f h [] []:=⟨List.Pairwise.nil,by simp⟩
theorem ExitI.skip {f:FuncD} {h t:Nat} {met E:List Nat} (k:ExitI f h met E) (ht:InL f h t \/ t ∈ E):ExitI f h (met ++ [t]) E:=by
 refine ⟨k.rise,fun x => ?_⟩
 rw [k.mem x,List.mem_append,List.mem_singleton]
 constructor
 ·exact fun q=>⟨.inl q.1,q.2⟩
 ·rintro ⟨q | q,r⟩
  ·exact ⟨q,r⟩
  ·subst q
   rcases ht with ht | ht
   ·exact absurd ht r
   ·exact (k.mem x).1 ht
theorem ExitI.add {f:FuncD} {h t:Nat} {met E:List Nat} (k:ExitI f h met E) (ht:¬ InL f h t) (hn:t ∉ E):ExitI f h (met ++ [t]) (insN E t):=by
 refine ⟨insN_rise k.rise hn,fun x => ?_⟩
 rw [mem_insN,k.mem x,List.mem_append,List.mem_singleton]
 constructor
 ·rintro (q | q)
  ·subst q;exact ⟨.inr rfl,ht⟩
  ·exact ⟨.inl q.1,q.2⟩
 ·rintro ⟨q | q,r⟩
  ·exact .inr ⟨q,r⟩
  ·exact .inl q
theorem ExitI.done {f:FuncD} {h:Nat} {E:List Nat} (hf:formB f=true) (hh:h < f.blocks.length) (k:ExitI f h ((bodyN f h).flatMap (toB f)) E):E=exitN f h:=by
 refine rise_same k.rise (List.Pairwise.filter _ List.pairwise_lt_range) fun t => ?_
 rw [k.mem t]
 unfold exitN
 rw [List.mem_filter,List.mem_range,List.mem_flatMap]
 simp only [decide_eq_true_eq]
 constructor
 ·rintro ⟨⟨b,hb,ht⟩,hn⟩
  have hb2:=(mem_bodyN hh).1 hb
  obtain ⟨x,hx⟩ : ∃ x,f.blocks[b]? = some x:=⟨_,List.getElem?_eq_getElem (hb2.lt hh)⟩
  rw [toB_at hx,List.mem_map] at ht
  obtain ⟨z,hz,rfl⟩:=ht
  have:=formB_to hf hx z hz
  exact ⟨by omega,hn,b,hb2,by rw [toB_at hx];exact List.mem_map.2 ⟨z,hz,rfl⟩⟩
 ·rintro ⟨_,hn,b,hb,ht⟩
  exact ⟨⟨b,(mem_bodyN hh).2 hb,ht⟩,hn⟩
end Go.Proofs.YtgmhnepmkaonaaaGreat
