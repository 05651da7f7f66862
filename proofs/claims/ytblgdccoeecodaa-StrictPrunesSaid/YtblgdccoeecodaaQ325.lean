/- What the claim needs,part 25. -/
import Derived.Test.YtblgdccoeecodaaQ321
namespace Go.Proofs.Ytblgdccoeecodaa
set_option linter.unusedSimpArgs false
set_option linter.unusedVariables false
open Go.RowKit
theorem refPhiBad {w : World} {fv : Array Value} (hf : fv.size = 4) {id typ : Int} {af av : Option Addr} {n m cf cv : Nat} {ap ab : Option Addr} {np cp nb cb : Nat} {ar ce : Int} (h : ((typ == 1 || typ == 2) && (n == m)) = false) :
    Calls Try.prog 82 #[.agg #[.slice ap np cp, .int .i64 ar, .int .i64 ce, .slice ab nb cb], .agg #[.int .i64 id, .int .i64 typ, .slice af n cf, .slice av m cv]] w fun e w' => e = .returned (.bool false) ∧ Below w.heap.size w w' := by
  clear hf
  cases ht1 : (typ == 1) <;> cases ht2 : (typ == 2) <;> cases hl : ((n : Int) == (m : Int))
  all_goals
    first
      | (have hnm : n = m := by simp at hl; omega
         subst hnm
         rw [ht1, ht2] at h
         simp at h; done)
      | (clear h
         go_enter Try.func82, Try.ntmps82
         go_upto_region 1 with (fail)
         have B2 : Hid (Box ((w.alloc (.cells #[.slice ap np cp, .int .i64 ar, .int .i64 ce, .slice ab nb cb] 25)).alloc (.cells #[.int .i64 id, .int .i64 typ, .slice af n cf, .slice av m cv] 78)) (w.heap.size) #[.slice ap np cp, .int .i64 ar, .int .i64 ce, .slice ab nb cb]) := Lib.hid (by simpa using ((Box.new w #[.slice ap np cp, .int .i64 ar, .int .i64 ce, .slice ab nb cb] 25).alloc _))
         have B3 : Hid (Box ((w.alloc (.cells #[.slice ap np cp, .int .i64 ar, .int .i64 ce, .slice ab nb cb] 25)).alloc (.cells #[.int .i64 id, .int .i64 typ, .slice af n cf, .slice av m cv] 78)) (w.heap.size + 1) #[.int .i64 id, .int .i64 typ, .slice af n cf, .slice av m cv]) := Lib.hid (by simpa using (Box.new (w.alloc (.cells #[.slice ap np cp, .int .i64 ar, .int .i64 ce, .slice ab nb cb] 25)) #[.int .i64 id, .int .i64 typ, .slice af n cf, .slice av m cv] 78))
         have HW : Hid (Below w.heap.size w ((w.alloc (.cells #[.slice ap np cp, .int .i64 ar, .int .i64 ce, .slice ab nb cb] 25)).alloc (.cells #[.int .i64 id, .int .i64 typ, .slice af n cf, .slice av m cv] 78))) := Lib.hid (((Below.refl _ _).alloc (Nat.le_refl _) _).alloc (by simp) _)
         generalize ((w.alloc (.cells #[.slice ap np cp, .int .i64 ar, .int .i64 ce, .slice ab nb cb] 25)).alloc (.cells #[.int .i64 id, .int .i64 typ, .slice af n cf, .slice av m cv] 78)) = wv at *
         obtain ⟨lB2, cB2, fB2⟩ := B2.out
         obtain ⟨lB3, cB3, fB3⟩ := B3.out
         go_wp2
         all_goals (go_ret; exact ⟨rfl, HW.out⟩))
set_option maxHeartbeats 6400000 in
theorem refPhi1 {w:World} {ap ab:Option Addr} {np cp nb cb:Nat} {ar ce:Int} {id:Int} {src:List Int} {n:Nat} {af av:Option Addr} {cf cv:Nat} (hn:n=src.length) (hs:Ints w (.slice af n cf) src) :
  Calls Try.prog 82 #[.agg #[.slice ap np cp,.int .i64 ar,.int .i64 ce,.slice ab nb cb],.agg #[.int .i64 id,.int .i64 1,.slice af n cf,.slice av n cv]] w fun e w'=>e = .returned (.bool (src.all (numB nb) && decide src.Nodup))/\Below w.heap.size w w':=by
 obtain ⟨a,cap,b,o,hav,hc,hcm,ha,hx⟩:=hs.parts
 rw [<-hn] at hav hc ha hx
 cases hav
 have hle:=hs.1.big
 rw [<-hn] at hle
 have HN:=Lib.hid hn
 have HA:=Lib.hid ha
 have HX:=Lib.hid hx
 obtain ⟨r,hr⟩ : ∃ r,r=(src.all (numB nb) && decide src.Nodup):=⟨_,rfl⟩
 rw [<-hr]
 have HR:=Lib.hid hr
 clear hn ha hx hs hr
 go_enter Try.func82,Try.ntmps82
 go_upto_region 1 with (fail)
 have B2:Hid (Box ((w.alloc (.cells #[.slice ap np cp,.int .i64 ar,.int .i64 ce,.slice ab nb cb] 25)).alloc (.cells #[.int .i64 id,.int .i64 1,.slice af n cf,.slice av n cv] 78)) (w.heap.size) #[.slice ap np cp,.int .i64 ar,.int .i64 ce,.slice ab nb cb]):=Lib.hid (by simpa using ((Box.new w #[.slice ap np cp,.int .i64 ar,.int .i64 ce,.slice ab nb cb] 25).alloc _))
 have B3:Hid (Box ((w.alloc (.cells #[.slice ap np cp,.int .i64 ar,.int .i64 ce,.slice ab nb cb] 25)).alloc (.cells #[.int .i64 id,.int .i64 1,.slice af n cf,.slice av n cv] 78)) (w.heap.size+1) #[.int .i64 id,.int .i64 1,.slice af n cf,.slice av n cv]):=Lib.hid (by simpa using (Box.new (w.alloc (.cells #[.slice ap np cp,.int .i64 ar,.int .i64 ce,.slice ab nb cb] 25)) #[.int .i64 id,.int .i64 1,.slice af n cf,.slice av n cv] 78))
 have HW:Hid (Below w.heap.size w ((w.alloc (.cells #[.slice ap np cp,.int .i64 ar,.int .i64 ce,.slice ab nb cb] 25)).alloc (.cells #[.int .i64 id,.int .i64 1,.slice af n cf,.slice av n cv] 78))):=Lib.hid (((Below.refl _ _).alloc (Nat.le_refl _) _).alloc (by simp) _)
 generalize ((w.alloc (.cells #[.slice ap np cp,.int .i64 ar,.int .i64 ce,.slice ab nb cb] 25)).alloc (.cells #[.int .i64 id,.int .i64 1,.slice af n cf,.slice av n cv] 78))=wv at *
 obtain ⟨lB2,cB2,fB2⟩:=B2.out
 obtain ⟨lB3,cB3,fB3⟩:=B3.out
 go_wp2_with fail
 go_loopw [5] (fun i wr => ∃ j:Nat,j <= n/\i = .int .i64 j/\(src.take j).all (numB nb)=true/\(src.take j).Nodup/\Below w.heap.size w wr/\Box wr w.heap.size #[.slice ap np cp,.int .i64 ar,.int .i64 ce,.slice ab nb cb]/\Box wr (w.heap.size+1) #[.int .i64 id,.int .i64 1,.slice af n cf,.slice av n cv]) (fun i _=>n - (intOf i).toNat)
 case atStart=>exact ⟨0,Nat.zero_le _,rfl,rfl,by simp,HW.out,B2.out,B3.out⟩
 case round =>
  obtain ⟨j,hj,rfl,hall,hnd,hW,hB2,hB3⟩:=hrel
  clear lB2 cB2 fB2 lB3 cB3 fB3
  have HALL:=Lib.hid hall
  have HND:=Lib.hid hnd
  replace HW:=Lib.hid hW
  replace B2:=Lib.hid hB2
  replace B3:=Lib.hid hB3
  clear hall hnd hW hB2 hB3
  generalize wr=wj at *

  obtain ⟨lB2,cB2,fB2⟩:=B2.out
  obtain ⟨lB3,cB3,fB3⟩:=B3.out
  by_cases hlt:j < n
  ·have hne:=HA.out (by omega)
   obtain ⟨rfl,hbw⟩:=hne

   have h0:=(HW.out.cell hbw).trans (HX.out j hlt)
   have hjx:=list_at src j (by have:=HN.out;omega)
   have HTS:=Lib.hid (take_snoc src j _ hjx)
   have HM:=Lib.hid (List.mem_of_getElem? hjx)
   have HJX:=Lib.hid hjx
   clear hjx
   obtain ⟨y,hy⟩ : ∃ y,y=src.getD j 0:=⟨_,rfl⟩
   rw [<-hy] at h0 HTS HM HJX
   have HYE:=Lib.hid hy
   clear hy
   cases hy1:decide (y < 0)
   ·cases hy2:decide ((nb:Int) <= y)
    ·have HY:Hid (numB nb y=true):=Lib.hid (by unfold numB;simp at hy1 hy2 ⊢;omega)
     go_upto_region 6 with (fail)
     go_quiet (fail)
     replace HW:=Lib.hid (below_drewN HW.out nq)
     clear lB2 cB2 fB2 lB3 cB3 fB3
     replace B2:=Lib.hid (B2.out.drewN nq)
     replace B3:=Lib.hid (B3.out.drewN nq)
     clear h0 hy1 hy2
     generalize wj.drewN nq=wk at *

     obtain ⟨lB2,cB2,fB2⟩:=B2.out
     obtain ⟨lB3,cB3,fB3⟩:=B3.out
     go_wp2_with fail
     go_loopw [6] (fun i wr => ∃ k:Nat,k <= j/\i = .int .i64 k/\y ∉ src.take k/\Below w.heap.size w wr/\Box wr w.heap.size #[.slice ap np cp,.int .i64 ar,.int .i64 ce,.slice ab nb cb]/\Box wr (w.heap.size+1) #[.int .i64 id,.int .i64 1,.slice (some ⟨b,o,none⟩) n cf,.slice av n cv]) (fun i _=>j - (intOf i).toNat)
     case atStart=>exact ⟨0,Nat.zero_le _,rfl,by simp,HW.out,B2.out,B3.out⟩
     case round =>
      obtain ⟨k,hk,rfl,hno,hW,hB2,hB3⟩:=hrel
      clear lB2 cB2 fB2 lB3 cB3 fB3
      have HNO:=Lib.hid hno
      replace HW:=Lib.hid hW
      replace B2:=Lib.hid hB2
      replace B3:=Lib.hid hB3
      clear hno hW hB2 hB3

      obtain ⟨lB2,cB2,fB2⟩:=B2.out
      obtain ⟨lB3,cB3,fB3⟩:=B3.out
      by_cases hlt2:k < j
      ·have h1:wr.cell? ⟨b,o+j,none⟩=some (.int .i64 y):=by rw [HYE.out];exact (HW.out.cell hbw).trans (HX.out j hlt)
       have hkn:k < n:=by omega
       have h2:=(HW.out.cell hbw).trans (HX.out k hkn)
       have hkx:=list_at src k (by have:=HN.out;omega)
       have HTS2:=Lib.hid (take_snoc src k _ hkx)
       have HKM:Hid (src.getD k 0 ∈ src.take j):=Lib.hid (by
        rw [List.mem_iff_getElem?];exact ⟨k,by rw [List.getElem?_take,if_pos hlt2];exact hkx⟩)
       clear hkx
       generalize src.getD k 0=z at *
       cases hzy:(z == y)
       ·have HZ:=Lib.hid hzy
        go_upto_region 11 with (fail)
        go_quiet (fail)
        go_wp2
        go_roundw
        case rel=>exact ⟨k+1,hlt2,by go_num,by rw [HTS2.out];have h3:=HZ.out;have h4:=HNO.out;simp at h3;simp [h4];exact fun e=>h3 e.symm,below_drewN HW.out _,B2.out.drewN _,B3.out.drewN _⟩
        case measure=>simp [intOf];omega
       ·have HZ:=Lib.hid hzy
        go_upto_region 11 with (fail)
        go_quiet (fail)
        go_wp2
        go_ret
        refine ⟨?_,below_drewN HW.out _⟩
        have h3:z=y:=by simpa using HZ.out
        have h4:¬ src.Nodup:=fun hnd=>by
         have h5:(src.take (j+1)).Nodup:=List.Nodup.sublist (List.take_sublist _ _) hnd
         rw [HTS.out,List.nodup_append] at h5
         exact h5.2.2 z HKM.out y (by simp) h3
        rw [HR.out,decide_eq_false h4,Bool.and_false]
        rfl
      ·obtain rfl:k=j:=by omega
       go_wp2
       go_roundw
       case rel=>exact ⟨k+1,hlt,by go_num,by rw [HTS.out,List.all_append,HALL.out];simp [HY.out],by rw [HTS.out,List.nodup_append];exact ⟨HND.out,by simp,fun x hx y2 hy2 e=>by simp at hy2;subst hy2;subst e;exact HNO.out hx⟩,HW.out,B2.out,B3.out⟩
       case measure=>simp [intOf];omega
    ·have HY:Hid (numB nb y=false):=Lib.hid (by unfold numB;simp at hy1 hy2 ⊢;omega)
     go_upto_region 6 with (fail)
     go_quiet (fail)
     go_wp2
     go_ret
     exact ⟨by rw [HR.out,show src.all (numB nb)=false by (rw [List.all_eq_false];exact ⟨y,HM.out,by rw [HY.out];simp⟩)];rfl,below_drewN HW.out _⟩
   ·have HY:Hid (numB nb y=false):=Lib.hid (by unfold numB;simp at hy1 ⊢;omega)
    go_upto_region 6 with (fail)
    go_quiet (fail)
    go_wp2
    go_ret
    exact ⟨by rw [HR.out,show src.all (numB nb)=false by (rw [List.all_eq_false];exact ⟨y,HM.out,by rw [HY.out];simp⟩)];rfl,below_drewN HW.out _⟩
  ·obtain rfl:j=n:=by omega
   rw [List.take_of_length_le (by have:=HN.out;omega)] at HALL HND
   go_wp2
   go_ret
   exact ⟨by rw [HR.out,HALL.out,decide_eq_true HND.out];rfl,HW.out⟩
set_option maxHeartbeats 6400000 in
theorem refPhi2 {w:World} {ap ab:Option Addr} {np cp nb cb:Nat} {ar ce:Int} {id:Int} {src:List Int} {n:Nat} {af av:Option Addr} {cf cv:Nat} (hn:n=src.length) (hs:Ints w (.slice af n cf) src) :
  Calls Try.prog 82 #[.agg #[.slice ap np cp,.int .i64 ar,.int .i64 ce,.slice ab nb cb],.agg #[.int .i64 id,.int .i64 2,.slice af n cf,.slice av n cv]] w fun e w'=>e = .returned (.bool (src.all (numB nb) && decide src.Nodup))/\Below w.heap.size w w':=by
 obtain ⟨a,cap,b,o,hav,hc,hcm,ha,hx⟩:=hs.parts
 rw [<-hn] at hav hc ha hx
 cases hav
 have hle:=hs.1.big
 rw [<-hn] at hle
 have HN:=Lib.hid hn
 have HA:=Lib.hid ha
 have HX:=Lib.hid hx
 obtain ⟨r,hr⟩ : ∃ r,r=(src.all (numB nb) && decide src.Nodup):=⟨_,rfl⟩
 rw [<-hr]
 have HR:=Lib.hid hr
 clear hn ha hx hs hr
 go_enter Try.func82,Try.ntmps82
 go_upto_region 1 with (fail)
 have B2:Hid (Box ((w.alloc (.cells #[.slice ap np cp,.int .i64 ar,.int .i64 ce,.slice ab nb cb] 25)).alloc (.cells #[.int .i64 id,.int .i64 2,.slice af n cf,.slice av n cv] 78)) (w.heap.size) #[.slice ap np cp,.int .i64 ar,.int .i64 ce,.slice ab nb cb]):=Lib.hid (by simpa using ((Box.new w #[.slice ap np cp,.int .i64 ar,.int .i64 ce,.slice ab nb cb] 25).alloc _))
 have B3:Hid (Box ((w.alloc (.cells #[.slice ap np cp,.int .i64 ar,.int .i64 ce,.slice ab nb cb] 25)).alloc (.cells #[.int .i64 id,.int .i64 2,.slice af n cf,.slice av n cv] 78)) (w.heap.size+1) #[.int .i64 id,.int .i64 2,.slice af n cf,.slice av n cv]):=Lib.hid (by simpa using (Box.new (w.alloc (.cells #[.slice ap np cp,.int .i64 ar,.int .i64 ce,.slice ab nb cb] 25)) #[.int .i64 id,.int .i64 2,.slice af n cf,.slice av n cv] 78))
 have HW:Hid (Below w.heap.size w ((w.alloc (.cells #[.slice ap np cp,.int .i64 ar,.int .i64 ce,.slice ab nb cb] 25)).alloc (.cells #[.int .i64 id,.int .i64 2,.slice af n cf,.slice av n cv] 78))):=Lib.hid (((Below.refl _ _).alloc (Nat.le_refl _) _).alloc (by simp) _)
 generalize ((w.alloc (.cells #[.slice ap np cp,.int .i64 ar,.int .i64 ce,.slice ab nb cb] 25)).alloc (.cells #[.int .i64 id,.int .i64 2,.slice af n cf,.slice av n cv] 78))=wv at *
 obtain ⟨lB2,cB2,fB2⟩:=B2.out
 obtain ⟨lB3,cB3,fB3⟩:=B3.out
 go_wp2_with fail
 go_loopw [5] (fun i wr => ∃ j:Nat,j <= n/\i = .int .i64 j/\(src.take j).all (numB nb)=true/\(src.take j).Nodup/\Below w.heap.size w wr/\Box wr w.heap.size #[.slice ap np cp,.int .i64 ar,.int .i64 ce,.slice ab nb cb]/\Box wr (w.heap.size+1) #[.int .i64 id,.int .i64 2,.slice af n cf,.slice av n cv]) (fun i _=>n - (intOf i).toNat)
 case atStart=>exact ⟨0,Nat.zero_le _,rfl,rfl,by simp,HW.out,B2.out,B3.out⟩
 case round =>
  obtain ⟨j,hj,rfl,hall,hnd,hW,hB2,hB3⟩:=hrel
  clear lB2 cB2 fB2 lB3 cB3 fB3
  have HALL:=Lib.hid hall
  have HND:=Lib.hid hnd
  replace HW:=Lib.hid hW
  replace B2:=Lib.hid hB2
  replace B3:=Lib.hid hB3
  clear hall hnd hW hB2 hB3
  generalize wr=wj at *

  obtain ⟨lB2,cB2,fB2⟩:=B2.out
  obtain ⟨lB3,cB3,fB3⟩:=B3.out
  by_cases hlt:j < n
  ·have hne:=HA.out (by omega)
   obtain ⟨rfl,hbw⟩:=hne

   have h0:=(HW.out.cell hbw).trans (HX.out j hlt)
   have hjx:=list_at src j (by have:=HN.out;omega)
   have HTS:=Lib.hid (take_snoc src j _ hjx)
   have HM:=Lib.hid (List.mem_of_getElem? hjx)
   have HJX:=Lib.hid hjx
   clear hjx
   obtain ⟨y,hy⟩ : ∃ y,y=src.getD j 0:=⟨_,rfl⟩
   rw [<-hy] at h0 HTS HM HJX
   have HYE:=Lib.hid hy
   clear hy
   cases hy1:decide (y < 0)
   ·cases hy2:decide ((nb:Int) <= y)
    ·have HY:Hid (numB nb y=true):=Lib.hid (by unfold numB;simp at hy1 hy2 ⊢;omega)
     go_upto_region 6 with (fail)
     go_quiet (fail)
     replace HW:=Lib.hid (below_drewN HW.out nq)
     clear lB2 cB2 fB2 lB3 cB3 fB3
     replace B2:=Lib.hid (B2.out.drewN nq)
     replace B3:=Lib.hid (B3.out.drewN nq)
     clear h0 hy1 hy2
     generalize wj.drewN nq=wk at *

     obtain ⟨lB2,cB2,fB2⟩:=B2.out
     obtain ⟨lB3,cB3,fB3⟩:=B3.out
     go_wp2_with fail
     go_loopw [6] (fun i wr => ∃ k:Nat,k <= j/\i = .int .i64 k/\y ∉ src.take k/\Below w.heap.size w wr/\Box wr w.heap.size #[.slice ap np cp,.int .i64 ar,.int .i64 ce,.slice ab nb cb]/\Box wr (w.heap.size+1) #[.int .i64 id,.int .i64 2,.slice (some ⟨b,o,none⟩) n cf,.slice av n cv]) (fun i _=>j - (intOf i).toNat)
     case atStart=>exact ⟨0,Nat.zero_le _,rfl,by simp,HW.out,B2.out,B3.out⟩
     case round =>
      obtain ⟨k,hk,rfl,hno,hW,hB2,hB3⟩:=hrel
      clear lB2 cB2 fB2 lB3 cB3 fB3
      have HNO:=Lib.hid hno
      replace HW:=Lib.hid hW
      replace B2:=Lib.hid hB2
      replace B3:=Lib.hid hB3
      clear hno hW hB2 hB3

      obtain ⟨lB2,cB2,fB2⟩:=B2.out
      obtain ⟨lB3,cB3,fB3⟩:=B3.out
      by_cases hlt2:k < j
      ·have h1:wr.cell? ⟨b,o+j,none⟩=some (.int .i64 y):=by rw [HYE.out];exact (HW.out.cell hbw).trans (HX.out j hlt)
       have hkn:k < n:=by omega
       have h2:=(HW.out.cell hbw).trans (HX.out k hkn)
       have hkx:=list_at src k (by have:=HN.out;omega)
       have HTS2:=Lib.hid (take_snoc src k _ hkx)
       have HKM:Hid (src.getD k 0 ∈ src.take j):=Lib.hid (by
        rw [List.mem_iff_getElem?];exact ⟨k,by rw [List.getElem?_take,if_pos hlt2];exact hkx⟩)
       clear hkx
       generalize src.getD k 0=z at *
       cases hzy:(z == y)
       ·have HZ:=Lib.hid hzy
        go_upto_region 11 with (fail)
        go_quiet (fail)
        go_wp2
        go_roundw
        case rel=>exact ⟨k+1,hlt2,by go_num,by rw [HTS2.out];have h3:=HZ.out;have h4:=HNO.out;simp at h3;simp [h4];exact fun e=>h3 e.symm,below_drewN HW.out _,B2.out.drewN _,B3.out.drewN _⟩
        case measure=>simp [intOf];omega
       ·have HZ:=Lib.hid hzy
        go_upto_region 11 with (fail)
        go_quiet (fail)
        go_wp2
        go_ret
        refine ⟨?_,below_drewN HW.out _⟩
        have h3:z=y:=by simpa using HZ.out
        have h4:¬ src.Nodup:=fun hnd=>by
         have h5:(src.take (j+1)).Nodup:=List.Nodup.sublist (List.take_sublist _ _) hnd
         rw [HTS.out,List.nodup_append] at h5
         exact h5.2.2 z HKM.out y (by simp) h3
        rw [HR.out,decide_eq_false h4,Bool.and_false]
        rfl
      ·obtain rfl:k=j:=by omega
       go_wp2
       go_roundw
       case rel=>exact ⟨k+1,hlt,by go_num,by rw [HTS.out,List.all_append,HALL.out];simp [HY.out],by rw [HTS.out,List.nodup_append];exact ⟨HND.out,by simp,fun x hx y2 hy2 e=>by simp at hy2;subst hy2;subst e;exact HNO.out hx⟩,HW.out,B2.out,B3.out⟩
       case measure=>simp [intOf];omega
    ·have HY:Hid (numB nb y=false):=Lib.hid (by unfold numB;simp at hy1 hy2 ⊢;omega)
     go_upto_region 6 with (fail)
     go_quiet (fail)
     go_wp2
     go_ret
     exact ⟨by rw [HR.out,show src.all (numB nb)=false by (rw [List.all_eq_false];exact ⟨y,HM.out,by rw [HY.out];simp⟩)];rfl,below_drewN HW.out _⟩
   ·have HY:Hid (numB nb y=false):=Lib.hid (by unfold numB;simp at hy1 ⊢;omega)
    go_upto_region 6 with (fail)
    go_quiet (fail)
    go_wp2
    go_ret
    exact ⟨by rw [HR.out,show src.all (numB nb)=false by (rw [List.all_eq_false];exact ⟨y,HM.out,by rw [HY.out];simp⟩)];rfl,below_drewN HW.out _⟩
  ·obtain rfl:j=n:=by omega
   rw [List.take_of_length_le (by have:=HN.out;omega)] at HALL HND
   go_wp2
   go_ret
   exact ⟨by rw [HR.out,HALL.out,decide_eq_true HND.out];rfl,HW.out⟩
theorem refPhi {w:World} {ap ab:Option Addr} {np cp nb cb:Nat} {ar ce:Int} {x:PhiD} {af av:Option Addr} {cf cv:Nat} (hs:Ints w (.slice af x.src.length cf) x.src) :
  Calls Try.prog 82 #[.agg #[.slice ap np cp,.int .i64 ar,.int .i64 ce,.slice ab nb cb],.agg (phiA x af av cf cv)] w fun e w'=>e = .returned (.bool (phiOk nb x))/\Below w.heap.size w w':=by
 cases hg:((x.typ == 1 || x.typ == 2) && (x.src.length == x.vals.length))
 ·have hok:phiOk nb x=false:=by unfold phiOk;rw [hg];rfl
  rw [hok]
  exact refPhiBad (fv:=#[.nilIface,.nilIface,.nilIface,.nilIface]) rfl hg
 ·have hok:phiOk nb x=(x.src.all (numB nb) && decide x.src.Nodup):=by unfold phiOk;rw [hg];rfl
  rw [hok]
  simp only [Bool.and_eq_true,Bool.or_eq_true,beq_iff_eq] at hg
  unfold phiA
  rw [<-hg.2]
  rcases hg.1 with h | h
  ·rw [h];exact refPhi1 rfl hs
  ·rw [h];exact refPhi2 rfl hs
end Go.Proofs.Ytblgdccoeecodaa
