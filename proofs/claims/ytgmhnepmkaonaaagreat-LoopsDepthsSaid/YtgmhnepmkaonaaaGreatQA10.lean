/- Part 10. -/
import Derived.Test.YtgmhnepmkaonaaaGreatQA8
import Derived.Test.YtgmhnepmkaonaaaGreatQA7
import Derived.Test.YtgmhnepmkaonaaaGreatQA9
namespace Go.Proofs.YtgmhnepmkaonaaaGreat
set_option maxHeartbeats 6400000
set_option linter.unusedSimpArgs false
set_option linter.unusedVariables false
open Go.RowKit
structure MostI (w0:World) (ar ce:Int) (S:Nat -> Prop) (w:World):Prop where
 below:Below w0.heap.size w0 w
 none:¬ S 0 -> w.heap.size=w0.heap.size /\ ¬ S 1 /\ ¬ S 2 /\ ¬ S 9 /\ ¬ S 16
 map:S 0 -> ∃ m,IMap w w0.heap.size m/\(S 1 -> mget m 0=some (.int .i64 0))/\(S 2 -> mget m 2=some (.int .i64 1))/\(S 9 -> mget m 3=some (.int .i64 (ar - 1)))/\(S 16 -> mget m 4=some (.int .i64 (ce - 1))) /\
  ∀ k,k ≠ 0 -> k ≠ 2 -> k ≠ 3 -> k ≠ 4 -> mget m k=Option.none
theorem MostI.start (w0:World) (ar ce:Int):MostI w0 ar ce (fun _=>False) w0.drew:=⟨(Below.refl _ _).drew,fun _=>⟨rfl,id,id,id,id⟩,fun h=>h.elim⟩
theorem MostI.plain {w0 w:World} {ar ce:Int} {S:Nat -> Prop} (h:MostI w0 ar ce S w) (k:Nat) (hk:0 ≠ k/\1 ≠ k/\2 ≠ k/\9 ≠ k/\16 ≠ k):MostI w0 ar ce (fun j=>j=k \/ S j) w:=by
 obtain ⟨k0,k1,k2,k9,k16⟩:=hk
 refine ⟨h.below,fun hn => ?_,fun hy => ?_⟩
 ·obtain ⟨q,q1,q2,q9,q16⟩:=h.none fun h0=>hn (.inr h0)
  exact ⟨q,fun x=>x.elim k1 q1,fun x=>x.elim k2 q2,fun x=>x.elim k9 q9,fun x=>x.elim k16 q16⟩
 ·obtain ⟨m,q,q1,q2,q9,q16,r⟩:=h.map (hy.resolve_left k0)
  exact ⟨m,q,fun x=>q1 (x.resolve_left k1),fun x=>q2 (x.resolve_left k2),fun x=>q9 (x.resolve_left k9),fun x=>q16 (x.resolve_left k16),r⟩
theorem MostI.make {w0 w:World} {ar ce:Int} {S:Nat -> Prop} (h:MostI w0 ar ce S w) (h0:¬ S 0):MostI w0 ar ce (fun j=>j=0 \/ S j) (w.alloc (.map #[] 0)):=by
 obtain ⟨q,q1,q2,q9,q16⟩:=h.none h0
 refine ⟨h.below.alloc (by omega) _,fun hn=>absurd (.inl rfl) hn,fun _=>⟨[], ?_,fun x=>absurd (x.resolve_left (by decide)) q1,fun x=>absurd (x.resolve_left (by decide)) q2,fun x=>absurd (x.resolve_left (by decide)) q9,fun x=>absurd (x.resolve_left (by decide)) q16,fun k _ _ _ _=>rfl⟩⟩
 rw [<-q];exact IMap.new w
theorem MostI.ins {w0 w:World} {ar ce:Int} {S:Nat -> Prop} {a:Act} {o:Oper} {m x u:Operand} {i:Nat} {key v:Int} (h:MostI w0 ar ce S w) (h0:S 0) (hop:o.op=Op.insert 98 m x u) (hm:a.eval m = .map (some w0.heap.size)) (hx:a.eval x = .int .i64 key) (hu:a.eval u = .int .i64 v)
  (hk:(i=1/\key=0/\v=0) \/ (i=2/\key=2/\v=1) \/ (i=9/\key=3/\v=ar - 1) \/ (i=16/\key=4/\v=ce - 1)) :
  ∃ w'',(execOp a.eval o).run Tryz.prog w = .ok .skip w'' /\ MostI w0 ar ce (fun j=>j=i \/ S j) w'':=by
 obtain ⟨mm,hM,q1,q2,q9,q16,r⟩:=h.map h0
 obtain ⟨w',hrun,r1,r2,r3⟩:=hM.update Tryz.underlying98 Tryz.underlying3 key (.int .i64 v)
 refine ⟨w',by simp [execOp,hop,hm,hx,hu,hrun,Result.andThen],h.below.trans (r3.below h.below.size (fun b hb=>by simp at hb;omega)),fun hn=>absurd (.inr h0) hn,fun _=>⟨_,r1, ?_⟩⟩
 simp only [mget_mput]
 rcases hk with ⟨rfl,rfl,rfl⟩ | ⟨rfl,rfl,rfl⟩ | ⟨rfl,rfl,rfl⟩ | ⟨rfl,rfl,rfl⟩
 ·exact ⟨fun _=>rfl,fun x=>q2 (x.resolve_left (by decide)),fun x=>q9 (x.resolve_left (by decide)),fun x=>q16 (x.resolve_left (by decide)),fun k k0 k2 k3 k4=>by rw [if_neg k0];exact r k k0 k2 k3 k4⟩
 ·exact ⟨fun x=>q1 (x.resolve_left (by decide)),fun _=>rfl,fun x=>q9 (x.resolve_left (by decide)),fun x=>q16 (x.resolve_left (by decide)),fun k k0 k2 k3 k4=>by rw [if_neg k2];exact r k k0 k2 k3 k4⟩
 ·exact ⟨fun x=>q1 (x.resolve_left (by decide)),fun x=>q2 (x.resolve_left (by decide)),fun _=>rfl,fun x=>q16 (x.resolve_left (by decide)),fun k k0 k2 k3 k4=>by rw [if_neg k3];exact r k k0 k2 k3 k4⟩
 ·exact ⟨fun x=>q1 (x.resolve_left (by decide)),fun x=>q2 (x.resolve_left (by decide)),fun x=>q9 (x.resolve_left (by decide)),fun _=>rfl,fun k k0 k2 k3 k4=>by rw [if_neg k4];exact r k k0 k2 k3 k4⟩
theorem MostI.end {w0 w:World} {ar ce:Int} {S:Nat -> Prop} (h:MostI w0 ar ce S w) (hS:∀ j,j < 17 -> S j):∃ m,IMap w w0.heap.size m /\ ∀ k,mget m k=(topN ar ce k).map (.int .i64):=by
 obtain ⟨m,q,q1,q2,q9,q16,r⟩:=h.map (hS 0 (by decide))
 refine ⟨m,q,fun k => ?_⟩
 unfold topN
 by_cases h0:k=0
 ·rw [h0];exact q1 (hS 1 (by decide))
 ·rw [if_neg h0]
  by_cases h2:k=2
  ·rw [h2];exact q2 (hS 2 (by decide))
  ·rw [if_neg h2]
   by_cases h3:k=3
   ·rw [h3];exact q9 (hS 9 (by decide))
   ·rw [if_neg h3]
    by_cases h4:k=4
    ·rw [h4];exact q16 (hS 16 (by decide))
    ·rw [if_neg h4];exact r k h0 h2 h3 h4
theorem instrM_no {np:Nat} {ar ce:Int} {T:List (Int × Int)} {x:InstrD} (h:instrOk ar ce x=false):instrM np ar ce T x=none:=by unfold instrM;rw [h];rfl
theorem instrM_yes {np:Nat} {ar ce:Int} {T:List (Int × Int)} {x:InstrD} (h:instrOk ar ce x=true):instrM np ar ce T x=if (shp0 x.op).result=0 then some T else defOne np T x.id (shp0 x.op).result:=by unfold instrM;rw [h];rfl
theorem chkInstr {w:World} {bc bm:Nat} {ap:Option Addr} {np cp:Nat} {vb:Value} {ar ce:Int} {T:List (Int × Int)} {x:InstrD} {aa:Option Addr} {ca:Nat} (har:0 <= ar/\ar <= 8) (hce:0 <= ce/\ce <= 64)
  (hb:Box w bc (chk (.slice ap np cp) vb ar ce bm)) (hm:IMap w bm (encT T)) :
  Calls Tryz.prog 167 #[.pointer (some ⟨bc,0,none⟩),.agg (instrA x aa ca)] w (StepR (instrM np ar ce T x) bm w):=by
 have HBC:=hd hb
 have HM:=hd hm
 have HNO:=hd (fun h=>instrM_no (np:=np) (ar:=ar) (ce:=ce) (T:=T) (x:=x) h)
 have HYES:=hd (fun h=>instrM_yes (np:=np) (ar:=ar) (ce:=ce) (T:=T) (x:=x) h)
 have HOK:Hid (instrOk ar ce x=((shp x.op).isSome && (x.args.length == (shp0 x.op).args.length) && nOk ar ce (shp0 x.op).n x.n && ((shp0 x.op).result != 0 || x.id == -1))):=hd rfl
 obtain ⟨r,hr⟩ : ∃ r,r=instrM np ar ce T x:=⟨_,rfl⟩
 rw [<-hr] at HNO HYES ⊢
 clear hr hb hm
 obtain ⟨op,id,args,N⟩:=x
 unfold instrA
 simp only at *
 obtain ⟨n,hn⟩ : ∃ n,n=args.length:=⟨_,rfl⟩
 rw [<-hn] at HOK ⊢
 clear hn
 go_enter Tryz.func167,Tryz.ntmps167
 go_upto_region 1 with (fail)
 have B3:Hid (Box (w.alloc (.cells #[.int .i64 op,.int .i64 id,.slice aa n ca,.int .i64 N] 87)) (w.heap.size) #[.int .i64 op,.int .i64 id,.slice aa n ca,.int .i64 N]):=hd (by simpa using (Box.new w #[.int .i64 op,.int .i64 id,.slice aa n ca,.int .i64 N] 87))
 have HW:Hid (Below w.heap.size w (w.alloc (.cells #[.int .i64 op,.int .i64 id,.slice aa n ca,.int .i64 N] 87))):=hd ((Below.refl _ _).alloc (Nat.le_refl _) _)
 generalize (w.alloc (.cells #[.int .i64 op,.int .i64 id,.slice aa n ca,.int .i64 N] 87))=wv at *
 obtain ⟨lB3,cB3,fB3⟩:=B3.out
 go_wp2_with fail
 refine (shapeOf op).mono ?_
 rintro e w1 ⟨u,rfl,hu,hb1⟩
 obtain ⟨ua,uc,rfl⟩:=hu.ints.form
 obtain ⟨s,hs⟩ : ∃ s,s=shp0 op:=⟨_,rfl⟩
 obtain ⟨ok,ho⟩ : ∃ ok,ok=(shp op).isSome:=⟨_,rfl⟩
 rw [<-hs, <-ho] at HOK
 rw [<-hs] at HYES
 simp only [<-hs, <-ho]
 clear hs ho hu
 obtain ⟨res,sargs,kn⟩:=s
 simp only at *
 obtain ⟨l,hl⟩ : ∃ l,l=sargs.length:=⟨_,rfl⟩
 rw [<-hl] at HOK ⊢
 clear hl
 clear lB3 cB3 fB3
 replace B3:=hd (B3.out.later hb1)
 replace HW:=hd (HW.out.trans (hb1.mono HW.out.size))
 clear hb1
 obtain ⟨lB3,cB3,fB3⟩:=B3.out
 go_upto_region 2 with (fail)
 have nB5B3:w1.heap.size ≠ w.heap.size:=fun e=>by have:=lB3;omega
 have nB3B5:w.heap.size ≠ w1.heap.size:=fun e=>nB5B3 e.symm
 have B3_:Box (w1.alloc (.cells #[.int .i64 res,.slice ua l uc,.int .i64 kn] 230)) (w.heap.size) #[.int .i64 op,.int .i64 id,.slice aa n ca,.int .i64 N]:=by simpa using (B3.out.alloc _)
 have B5_:Box (w1.alloc (.cells #[.int .i64 res,.slice ua l uc,.int .i64 kn] 230)) (w1.heap.size) #[.int .i64 res,.slice ua l uc,.int .i64 kn]:=by simpa using (Box.new w1 #[.int .i64 res,.slice ua l uc,.int .i64 kn] 230)
 have HW_:Below w.heap.size w (w1.alloc (.cells #[.int .i64 res,.slice ua l uc,.int .i64 kn] 230)):=(HW.out.alloc (by first | exact Nat.le_refl _ | exact HW.out.size | (simp only [World.size_alloc,World.size_setCell];have:=HW.out.size;omega)) _)
 clear lB3 cB3 fB3
 clear B3 HW
 generalize (w1.alloc (.cells #[.int .i64 res,.slice ua l uc,.int .i64 kn] 230))=w5 at *
 have B3:=hd B3_
 clear B3_
 have B5:=hd B5_
 clear B5_
 have HW:=hd HW_
 clear HW_
 obtain ⟨lB3,cB3,fB3⟩:=B3.out
 obtain ⟨lB5,cB5,fB5⟩:=B5.out
 cases ok
 ·go_wp2
  go_ret
  exact StepR.no (HNO.out (by rw [HOK.out];rfl)) (Turn.of_below HW.out _)
 ·cases hln:((n:Int) != (l:Int))
  rotate_left
  ·have HLN:=hd hln
   go_wp2
   go_ret
   exact StepR.no (HNO.out (by rw [HOK.out,show (n == l)=false by (have:=HLN.out;simp at this ⊢;omega)];rfl)) (Turn.of_below HW.out _)
  ·have HLN:Hid ((n == l)=true):=hd (by simp at hln ⊢;omega)
   rw [HLN.out,Bool.true_and,Bool.true_and] at HOK
   have hm1:IntKind.i64.wrap (ar - 1)=ar - 1:=by rw [i64_wrap];unfold wrap64;omega
   have hm2:IntKind.i64.wrap (ce - 1)=ce - 1:=by rw [i64_wrap];unfold wrap64;omega
   have HBR:=hd (HBC.out.later HW.out)
   go_upto_region 4 with (fail)
   refine wp_region_state 17 (MostI w5 ar ce) (by kernel_rfl) (by kernel_rfl) (MostI.start _ _ _) ?_
   simp only [List.take_succ_cons,List.take_zero,List.drop_succ_cons,List.drop_zero]
   refine Stat.op (v:=.map (some w5.heap.size)) rfl (fun S w' hE hS hI=>⟨w'.alloc (.map #[] 0),by rw [<-(hI.none hS).1];rfl,hI.make hS⟩) ?_
   simp only [Act.put,List.setIfInBounds_toArray,List.set_cons_zero,List.set_cons_succ]
   refine Stat.still rfl (fun S w' hE hS hI=>hI.ins (hE 0 (by kernel_rfl)) rfl rfl rfl rfl (by simp)) ?_
   simp only [Act.put,List.setIfInBounds_toArray,List.set_cons_zero,List.set_cons_succ]
   refine Stat.still rfl (fun S w' hE hS hI=>hI.ins (hE 0 (by kernel_rfl)) rfl rfl rfl rfl (by simp)) ?_
   simp only [Act.put,List.setIfInBounds_toArray,List.set_cons_zero,List.set_cons_succ]
   refine Stat.val (v := ?_) rfl (fun S w' hE hS hI=>⟨?_,hI.plain _ (by decide)⟩) ?_
   rotate_left
   focus ((have cg1:=(HBR.out.later hI.below).at 1 (v:=.int .i64 ar) rfl);(have cg2:=(HBR.out.later hI.below).at 2 (v:=.int .i64 ce) rfl);clear hE hS hI;first | (go_simp;done) | (go_simp;with_reducible rfl))
   simp only [Act.put,List.setIfInBounds_toArray,List.set_cons_zero,List.set_cons_succ]
   refine Stat.val (v := ?_) rfl (fun S w' hE hS hI=>⟨?_,hI.plain _ (by decide)⟩) ?_
   rotate_left
   focus ((have cg1:=(HBR.out.later hI.below).at 1 (v:=.int .i64 ar) rfl);(have cg2:=(HBR.out.later hI.below).at 2 (v:=.int .i64 ce) rfl);clear hE hS hI;first | (go_simp;done) | (go_simp;with_reducible rfl))
   simp only [Act.put,List.setIfInBounds_toArray,List.set_cons_zero,List.set_cons_succ]
   refine Stat.val (v := ?_) rfl (fun S w' hE hS hI=>⟨?_,hI.plain _ (by decide)⟩) ?_
   rotate_left
   focus ((have cg1:=(HBR.out.later hI.below).at 1 (v:=.int .i64 ar) rfl);(have cg2:=(HBR.out.later hI.below).at 2 (v:=.int .i64 ce) rfl);clear hE hS hI;first | (go_simp;done) | (go_simp;with_reducible rfl))
   simp only [Act.put,List.setIfInBounds_toArray,List.set_cons_zero,List.set_cons_succ]
   refine Stat.val (v := ?_) rfl (fun S w' hE hS hI=>⟨?_,hI.plain _ (by decide)⟩) ?_
   rotate_left
   focus ((have cg1:=(HBR.out.later hI.below).at 1 (v:=.int .i64 ar) rfl);(have cg2:=(HBR.out.later hI.below).at 2 (v:=.int .i64 ce) rfl);clear hE hS hI;first | (go_simp;done) | (go_simp;with_reducible rfl))
   simp only [Act.put,List.setIfInBounds_toArray,List.set_cons_zero,List.set_cons_succ]
   refine Stat.val (v := ?_) rfl (fun S w' hE hS hI=>⟨?_,hI.plain _ (by decide)⟩) ?_
   rotate_left
   focus ((have cg1:=(HBR.out.later hI.below).at 1 (v:=.int .i64 ar) rfl);(have cg2:=(HBR.out.later hI.below).at 2 (v:=.int .i64 ce) rfl);clear hE hS hI;first | (go_simp;done) | (go_simp;with_reducible rfl))
   simp only [Act.put,List.setIfInBounds_toArray,List.set_cons_zero,List.set_cons_succ]
   refine Stat.val (v := ?_) rfl (fun S w' hE hS hI=>⟨?_,hI.plain _ (by decide)⟩) ?_
   rotate_left
   focus ((have cg1:=(HBR.out.later hI.below).at 1 (v:=.int .i64 ar) rfl);(have cg2:=(HBR.out.later hI.below).at 2 (v:=.int .i64 ce) rfl);clear hE hS hI;first | (go_simp;done) | (go_simp;with_reducible rfl))
   simp only [Act.put,List.setIfInBounds_toArray,List.set_cons_zero,List.set_cons_succ]
   refine Stat.still rfl (fun S w' hE hS hI=>hI.ins (hE 0 (by kernel_rfl)) rfl rfl rfl rfl (by simp)) ?_
   simp only [Act.put,List.setIfInBounds_toArray,List.set_cons_zero,List.set_cons_succ]
   refine Stat.val (v := ?_) rfl (fun S w' hE hS hI=>⟨?_,hI.plain _ (by decide)⟩) ?_
   rotate_left
   focus ((have cg1:=(HBR.out.later hI.below).at 1 (v:=.int .i64 ar) rfl);(have cg2:=(HBR.out.later hI.below).at 2 (v:=.int .i64 ce) rfl);clear hE hS hI;first | (go_simp;done) | (go_simp;with_reducible rfl))
   simp only [Act.put,List.setIfInBounds_toArray,List.set_cons_zero,List.set_cons_succ]
   refine Stat.val (v := ?_) rfl (fun S w' hE hS hI=>⟨?_,hI.plain _ (by decide)⟩) ?_
   rotate_left
   focus ((have cg1:=(HBR.out.later hI.below).at 1 (v:=.int .i64 ar) rfl);(have cg2:=(HBR.out.later hI.below).at 2 (v:=.int .i64 ce) rfl);clear hE hS hI;first | (go_simp;done) | (go_simp;with_reducible rfl))
   simp only [Act.put,List.setIfInBounds_toArray,List.set_cons_zero,List.set_cons_succ]
   refine Stat.val (v := ?_) rfl (fun S w' hE hS hI=>⟨?_,hI.plain _ (by decide)⟩) ?_
   rotate_left
   focus ((have cg1:=(HBR.out.later hI.below).at 1 (v:=.int .i64 ar) rfl);(have cg2:=(HBR.out.later hI.below).at 2 (v:=.int .i64 ce) rfl);clear hE hS hI;first | (go_simp;done) | (go_simp;with_reducible rfl))
   simp only [Act.put,List.setIfInBounds_toArray,List.set_cons_zero,List.set_cons_succ]
   refine Stat.val (v := ?_) rfl (fun S w' hE hS hI=>⟨?_,hI.plain _ (by decide)⟩) ?_
   rotate_left
   focus ((have cg1:=(HBR.out.later hI.below).at 1 (v:=.int .i64 ar) rfl);(have cg2:=(HBR.out.later hI.below).at 2 (v:=.int .i64 ce) rfl);clear hE hS hI;first | (go_simp;done) | (go_simp;with_reducible rfl))
   simp only [Act.put,List.setIfInBounds_toArray,List.set_cons_zero,List.set_cons_succ]
   refine Stat.val (v := ?_) rfl (fun S w' hE hS hI=>⟨?_,hI.plain _ (by decide)⟩) ?_
   rotate_left
   focus ((have cg1:=(HBR.out.later hI.below).at 1 (v:=.int .i64 ar) rfl);(have cg2:=(HBR.out.later hI.below).at 2 (v:=.int .i64 ce) rfl);clear hE hS hI;first | (go_simp;done) | (go_simp;with_reducible rfl))
   simp only [Act.put,List.setIfInBounds_toArray,List.set_cons_zero,List.set_cons_succ]
   refine Stat.val (v := ?_) rfl (fun S w' hE hS hI=>⟨?_,hI.plain _ (by decide)⟩) ?_
   rotate_left
   focus ((have cg1:=(HBR.out.later hI.below).at 1 (v:=.int .i64 ar) rfl);(have cg2:=(HBR.out.later hI.below).at 2 (v:=.int .i64 ce) rfl);clear hE hS hI;first | (go_simp;done) | (go_simp;with_reducible rfl))
   simp only [Act.put,List.setIfInBounds_toArray,List.set_cons_zero,List.set_cons_succ]
   refine Stat.still rfl (fun S w' hE hS hI=>hI.ins (hE 0 (by kernel_rfl)) rfl rfl rfl rfl (by simp)) ?_
   simp only [Act.put,List.setIfInBounds_toArray,List.set_cons_zero,List.set_cons_succ]
   intro S w6 hS hI
   obtain ⟨m,hIm,hget⟩:=hI.end hS
   have hb6:=hI.below
   have HI:=hd hIm
   have HG:=hd (hget kn)
   clear hI hS hIm hget hm1 hm2
   replace HBR:=hd (HBR.out.later hb6)
   clear lB3 cB3 fB3 lB5 cB5 fB5
   replace B3:=hd (B3.out.later hb6)
   replace B5:=hd (B5.out.later hb6)
   replace HW:=hd (HW.out.trans (hb6.mono HW.out.size))
   clear hb6
   obtain ⟨lB3,cB3,fB3⟩:=B3.out
   obtain ⟨lB5,cB5,fB5⟩:=B5.out
   have HMR:=hd (HM.out.later HW.out)
   cases htop:topN ar ce kn with
   | none =>
    have HT:=hd htop
    have HNK:Hid (instrOk ar ce { op:=op,id:=id,args:=args,n:=N } = (res != 0 || id == -1)):=hd (by rw [HOK.out];unfold nOk;rw [HT.out];rfl)
    clear HOK htop
    rw [HT.out] at HG
    cases hres:(res == 0)
    ·have HRS:=hd hres
     go_wp2_with (at_lookup;refine wpList_look (q:=.i64) (z:=.int .i64 0) (b:=w5.heap.size) (mm:=m) (y:=kn) rfl _ _ _ rfl Tryz.underlying98 Tryz.underlying3 (zeroInt _) rfl HI.out rfl ?_;rw [HG.out])
     refine (chkDef HBR.out HMR.out id res).mono ?_
     rintro e w7 ⟨rfl,h7,t7⟩
     have H7:=hd h7
     have T7:=hd t7
     clear h7 t7
     go_wp2
     go_ret
     rw [HYES.out (by rw [HNK.out];simp;left;simpa using HRS.out),if_neg (by simpa using HRS.out)]
     exact ⟨rfl,H7.out,(Turn.of_below HW.out _).trans T7.out⟩
    ·have HRS:=hd hres
     cases hid:(id == -1)
     all_goals
      have HID:=hd hid
      go_wp2_with (at_lookup;refine wpList_look (q:=.i64) (z:=.int .i64 0) (b:=w5.heap.size) (mm:=m) (y:=kn) rfl _ _ _ rfl Tryz.underlying98 Tryz.underlying3 (zeroInt _) rfl HI.out rfl ?_;rw [HG.out])
      go_ret
     ·exact StepR.no (HNO.out (by rw [HNK.out,HID.out];simp;simpa using HRS.out)) (Turn.of_below HW.out _)
     ·refine StepR.yes (T:=T) ?_ HMR.out (Turn.of_below HW.out _)
      rw [HYES.out (by rw [HNK.out,HID.out];simp),if_pos (by simpa using HRS.out)]
   | some q =>
    have HT:=hd htop
    clear htop
    rw [HT.out] at HG
    cases hN0:decide (N < 0)
    rotate_left
    ·have HN0:=hd hN0
     go_wp2_with (at_lookup;refine wpList_look (q:=.i64) (z:=.int .i64 0) (b:=w5.heap.size) (mm:=m) (y:=kn) rfl _ _ _ rfl Tryz.underlying98 Tryz.underlying3 (zeroInt _) rfl HI.out rfl ?_;rw [HG.out])
     go_ret
     exact StepR.no (HNO.out (by rw [HOK.out];unfold nOk;rw [HT.out];have:=HN0.out;simp at this ⊢;intro h;omega)) (Turn.of_below HW.out _)
    ·have HN0:=hd hN0
     cases hN1:decide (q < N)
     rotate_left
     ·have HN1:=hd hN1
      go_wp2_with (at_lookup;refine wpList_look (q:=.i64) (z:=.int .i64 0) (b:=w5.heap.size) (mm:=m) (y:=kn) rfl _ _ _ rfl Tryz.underlying98 Tryz.underlying3 (zeroInt _) rfl HI.out rfl ?_;rw [HG.out])
      go_ret
      exact StepR.no (HNO.out (by rw [HOK.out];unfold nOk;rw [HT.out];have:=HN1.out;simp at this ⊢;intro h1 h2;omega)) (Turn.of_below HW.out _)
     ·have HN1:=hd hN1
      have HNK:Hid (instrOk ar ce { op:=op,id:=id,args:=args,n:=N } = (res != 0 || id == -1)):=hd (by rw [HOK.out];unfold nOk;rw [HT.out];have h0:=HN0.out;have h1:=HN1.out;simp at h0 h1;simp [h0,h1])
      clear HOK
      cases hres:(res == 0)
      ·have HRS:=hd hres
       go_wp2_with (at_lookup;refine wpList_look (q:=.i64) (z:=.int .i64 0) (b:=w5.heap.size) (mm:=m) (y:=kn) rfl _ _ _ rfl Tryz.underlying98 Tryz.underlying3 (zeroInt _) rfl HI.out rfl ?_;rw [HG.out])
       refine (chkDef HBR.out HMR.out id res).mono ?_
       rintro e w7 ⟨rfl,h7,t7⟩
       have H7:=hd h7
       have T7:=hd t7
       clear h7 t7
       go_wp2
       go_ret
       rw [HYES.out (by rw [HNK.out];simp;left;simpa using HRS.out),if_neg (by simpa using HRS.out)]
       exact ⟨rfl,H7.out,(Turn.of_below HW.out _).trans T7.out⟩
      ·have HRS:=hd hres
       cases hid:(id == -1)
       all_goals
        have HID:=hd hid
        go_wp2_with (at_lookup;refine wpList_look (q:=.i64) (z:=.int .i64 0) (b:=w5.heap.size) (mm:=m) (y:=kn) rfl _ _ _ rfl Tryz.underlying98 Tryz.underlying3 (zeroInt _) rfl HI.out rfl ?_;rw [HG.out])
        go_ret
       ·exact StepR.no (HNO.out (by rw [HNK.out,HID.out];simp;simpa using HRS.out)) (Turn.of_below HW.out _)
       ·refine StepR.yes (T:=T) ?_ HMR.out (Turn.of_below HW.out _)
        rw [HYES.out (by rw [HNK.out,HID.out];simp),if_pos (by simpa using HRS.out)]
theorem parT_snoc (ps:List Int) (j:Nat) (t:Int) (h:ps[j]? = some t):parT (ps.take (j+1))=parT (ps.take j) ++ [((j:Int),t)]:=by
 have hj:=(List.getElem?_eq_some_iff.1 h).1
 unfold parT
 rw [List.take_add_one,h,Option.toList_some,List.zipIdx_append,List.map_append]
 simp [List.length_take,Nat.min_eq_left (Nat.le_of_lt hj)]
theorem parT_new (ps:List Int) (j:Nat):tyOf (parT (ps.take j)) j=none:=by
 rw [tyOf_none,parT_keys]
 simp only [List.mem_map,List.mem_range,not_exists,not_and,List.length_take]
 intro i hi e;omega
theorem formM_head {f:FuncD} (h:headOk f=true):formM f=if f.params.all parOk then f.blocks.zipIdx.foldlM (blockM f.params.length f.blocks.length f.arrays f.cells) (parT f.params) else none:=by
 unfold formM;rw [h,Bool.true_and]
theorem formM_nohead {f:FuncD} (h:headOk f=false):formM f=none:=by
 unfold formM;rw [h];rfl
set_option maxRecDepth 100000 in
theorem formedNo {w:World} {f:FuncD} {bc bm:Nat} {ap ab:Option Addr} {cp cb np nb:Nat} (hb:Box w bc (chk (.slice ap np cp) (.slice ab nb cb) f.arrays f.cells bm)) (hnp:np=f.params.length) (hnb:nb=f.blocks.length)
  (hB:SliceOf BlockR 6 w (.slice ab nb cb) f.blocks) (hno:headOk f=false) :
  Calls Tryz.prog 133 #[.pointer (some ⟨bc,0,none⟩)] w fun e w'=>e = .returned (.bool false)/\Below w.heap.size w w':=by
 have c0:=hb.at 0 (v:=.slice ap np cp) rfl
 have c1:=hb.at 1 (v:=.int .i64 f.arrays) rfl
 have c2:=hb.at 2 (v:=.int .i64 f.cells) rfl
 have c3:=hb.at 3 (v:=.slice ab nb cb) rfl
 have HB:=hd hB
 have hsz:=sizeB_le hB
 have hways:16 < np \/ (np <= 16/\f.arrays < 0) \/ (np <= 16/\0 <= f.arrays/\8 < f.arrays) \/ (np <= 16/\0 <= f.arrays/\f.arrays <= 8/\f.cells < 0) \/ (np <= 16/\0 <= f.arrays/\f.arrays <= 8/\0 <= f.cells/\64 < f.cells) \/
   (np <= 16/\0 <= f.arrays/\f.arrays <= 8/\0 <= f.cells/\f.cells <= 64/\nb < 1) \/ (np <= 16/\0 <= f.arrays/\f.arrays <= 8/\0 <= f.cells/\f.cells <= 64/\1 <= nb/\512 < nb) \/
   (np <= 16/\0 <= f.arrays/\f.arrays <= 8/\0 <= f.cells/\f.cells <= 64/\1 <= nb/\nb <= 512/\4096 < sizeF f):=by
  rw [hnp,hnb]
  by_cases h1:16 < f.params.length
  ·exact .inl h1
  ·by_cases h2:f.arrays < 0
   ·exact .inr (.inl ⟨by omega,h2⟩)
   ·by_cases h3:8 < f.arrays
    ·exact .inr (.inr (.inl ⟨by omega,by omega,h3⟩))
    ·by_cases h4:f.cells < 0
     ·exact .inr (.inr (.inr (.inl ⟨by omega,by omega,by omega,h4⟩)))
     ·by_cases h5:64 < f.cells
      ·exact .inr (.inr (.inr (.inr (.inl ⟨by omega,by omega,by omega,by omega,h5⟩))))
      ·by_cases h6:f.blocks.length < 1
       ·exact .inr (.inr (.inr (.inr (.inr (.inl ⟨by omega,by omega,by omega,by omega,by omega,h6⟩)))))
       ·by_cases h7:512 < f.blocks.length
        ·exact .inr (.inr (.inr (.inr (.inr (.inr (.inl ⟨by omega,by omega,by omega,by omega,by omega,by omega,h7⟩))))))
        ·refine .inr (.inr (.inr (.inr (.inr (.inr (.inr ⟨by omega,by omega,by omega,by omega,by omega,by omega,by omega, ?_⟩))))))
         unfold headOk at hno
         simp at hno
         have:=hno (by omega) (by omega) (by omega) (by omega) (by omega) (by omega) (by omega)
         omega
 have C3:=hd c3
 clear hno hb hsz hB
 have HNB:=hd hnb
 clear hnb hnp
 have HSF:Hid ((f.blocks.map sizeB).sum=sizeF f):=hd rfl
 generalize f.arrays=ar at *
 generalize f.cells=ce at *
 generalize sizeF f=sz at *
 rcases hways with h | ⟨h1,h⟩ | ⟨h1,h2,h⟩ | ⟨h1,h2,h3,h⟩ | ⟨h1,h2,h3,h4,h⟩ | ⟨h1,h2,h3,h4,h5,h⟩ | ⟨h1,h2,h3,h4,h5,h6,h⟩ | ⟨h1,h2,h3,h4,h5,h6,h7,h⟩
 all_goals
  go_enter Tryz.func133,Tryz.ntmps133
  go_wp2_with (go_at_call 121;refine (chkSize C3.out HB.out (by rw [<-HNB.out];assumption)).mono ?_;rintro e w1 ⟨rfl,hb1⟩;have HB1:=hd hb1;clear hb1;rw [HSF.out])
  go_ret
  first | exact ⟨rfl,HB1.out⟩ | exact ⟨rfl,Below.refl _ _⟩
end Go.Proofs.YtgmhnepmkaonaaaGreat
