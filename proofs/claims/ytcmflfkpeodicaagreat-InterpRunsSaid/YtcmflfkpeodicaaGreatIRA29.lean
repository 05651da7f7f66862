/- Part 29. -/
import Derived.WalkSmall
import Derived.Test.YtcmflfkpeodicaaGreatIRA28
namespace Go.Proofs.YtcmflfkpeodicaaGreat
set_option maxHeartbeats 3200000
set_option linter.all false
open Go.RowKit
theorem endC {w:World} (e:Int):Calls Tryz.prog 191 #[.int .i64 e] w fun r w'=>r=jW ⟨e,0,0⟩/\Below w.heap.size w w':=by
 go_enter Tryz.func191,Tryz.ntmps191
 go_wp2
 exact ⟨rfl,rfl,Below.refl _ _⟩
theorem aCO {w:World} (e:Int):Calls Tryz.prog 139 #[.int .i64 e] w fun r w'=>r=jW ⟨2,0,e⟩/\Below w.heap.size w w':=by
 go_enter Tryz.func139,Tryz.ntmps139
 go_wp2
 exact ⟨rfl,rfl,Below.refl _ _⟩
def ResR (base bs fuel:Nat) (w:World) (bm:Nat) (D:Foot) {α : Type} (val : α -> Value) (r:Res α) (e:Ending) (w' : World):Prop:=match r with
 | .go a s'=>e = .returned (val a)/\MOk base bs fuel w bm D s' w'
 | .over o s'=>e=jW o/\MOk base bs fuel w bm D s' w'
def aIG (_:Unit):Value:=.tuple #[]
def intV (n:Int):Value:=.int .i64 n
theorem aG9 {base bs fuel bm:Nat} {w:World} {D:Foot} {s:RunS} (hM:Mach base bs fuel w bm D s) (hfu:fuel <= 200000) (hst:s.steps <= fuel) :
  Calls Tryz.prog 137 #[.pointer (some ⟨bm,0,none⟩)] w (ResR base bs fuel w bm D aIG (iL fuel s)):=by
 obtain ⟨ov,av,vv,cv,mv,m,F,hP,hD⟩:=hM
 have HP:=h! hP
 have HD:=h! hD
 have BM:=h! hP.box
 clear hP hD
 by_cases hs:s.steps=fuel
 ·have HR:Hid (iL fuel s = .over ⟨3,0,0⟩ s):=h! (by unfold iL;rw [if_pos hs])
  have ht:(((s.steps:Nat):Int) == (fuel:Int))=true:=by rw [hs];simp
  rw [HR.out]
  clear hs hst hfu
  go_enter Tryz.func137,Tryz.ntmps137
  go_upto_region 0 with (fail)
  obtain ⟨lm,cm,fm⟩:=BM.out
  go_quiet (fail)
  clear cm fm ht
  have hbq:=eK (Below.refl w.heap.size w) nq
  go_wp2_with fail
  refine (endC 3).mono ?_
  rintro e w1 ⟨rfl,hb⟩
  unfold jW
  go_wp2
  exact ⟨rfl,rfl,MOk.still HD.out HP.out (hbq.trans (hb.mono hbq.size))⟩
 ·have HR:Hid (iL fuel s = .go () { s with steps:=s.steps+1 }):=h! (by unfold iL;rw [if_neg hs])
  have ht:(((s.steps:Nat):Int) == (fuel:Int))=false:=by
   simp only [beq_eq_false_iff_ne,ne_eq]
   omega
  have hadd:IntKind.i64.wrap (((s.steps:Nat):Int)+1)=((s.steps+1:Nat):Int):=by rw [kJ ⟨by omega,by omega⟩];omega
  rw [HR.out]
  clear hs
  go_enter Tryz.func137,Tryz.ntmps137
  go_upto_region 0 with (fail)
  obtain ⟨lm,cm,fm⟩:=BM.out
  go_quiet (fail)
  clear cm fm ht
  have hbq:=eK (Below.refl w.heap.size w) nq
  have HP1:=h! (HP.out.later hbq)
  generalize w.drewN nq=w1 at *
  obtain ⟨lm1,cm1,fm1⟩:=HP1.out.box
  go_wp2
  clear cm1 fm1
  refine bodyPost_end (v:=.tuple #[]) (by simp [results,Tryz.results137,go_sem, *]) rfl ⟨rfl, ?_⟩
  refine MOk.of HD.out (HP1.out.put (s' := { s with steps:=s.steps+1 }) (o':=⟨0,0,0⟩) 5 (.int .i64 ((s.steps+1:Nat):Int)) rfl HP1.out.out HP1.out.arr HP1.out.vis HP1.out.cel rfl) ?_ (fun i k hk=>.inl hk)
  exact (Off.of_below hbq _).trans ((Off.set w1 ⟨bm,5,none⟩ _).mono fun k _ hk=>⟨0,(HP1.out.b0 k).2 hk⟩)
def mB (look:Bool) (s:RunS):RunS:=if look then { s with checks:=s.checks+1 } else s
def aE0 (look:Bool):OverD:=if look then ⟨2,0, -2⟩ else ⟨5,0,0⟩
def MAt (w:World) (bm n g:Nat):Prop := ∃ (ga len cap al c:Nat),w.cell? ⟨bm,4,none⟩=some (.slice (some ⟨ga,0,none⟩) len cap)/\w.cell? ⟨ga,n,none⟩=some (.slice (some ⟨g,0,none⟩) al c)
theorem MAt.one {w:World} {bm n g g' : Nat} (h:MAt w bm n g) (h' : MAt w bm n g'):g=g':=by
 obtain ⟨ga,len,cap,al,c,h1,h2⟩:=h
 obtain ⟨ga',len',cap',al',c',h3,h4⟩:=h'
 rw [h1] at h3
 obtain rfl:ga=ga':=by injection h3 with h3;injection h3 with q1;injection q1 with q1;injection q1
 rw [h2] at h4
 injection h4 with h4
 injection h4 with q1
 injection q1 with q1
 injection q1
theorem MAt.below {w w' : World} {bm n g:Nat} (h:MAt w bm n g) (hb:Below w.heap.size w w'):MAt w' bm n g:=by
 obtain ⟨ga,len,cap,al,c,h1,h2⟩:=h
 exact ⟨ga,len,cap,al,c,(hb.cell (World.block_lt_of_cell? w _ h1)).trans h1,(hb.cell (World.block_lt_of_cell? w _ h2)).trans h2⟩
def aIH (base bs fuel:Nat) (w:World) (bm:Nat) (D:Foot) (n:Nat) (a:List Int) (i:Int) (look:Bool) (s:RunS) (e:Ending) (w' : World):Prop :=
 ((i < 0 \/ (a.length:Int) <= i)/\e=jW (aE0 look)/\MOk base bs fuel w bm D (mB look s) w') \/
 ∃ (j g:Nat) (x:Int),i=j/\a[j]? = some x/\e = .returned (.pointer (some ⟨g,j,none⟩))/\MAt w bm n g/\D g/\MOk base bs fuel w bm D (mB look s) w' /\ w'.cell? ⟨g,j,none⟩=some (.int .i64 x)/\w'.frozen? ⟨g,j,none⟩=false /\
  ∀ W y,Below w'.heap.size w' W -> In64 y -> MOk base bs fuel w bm D { mB look s with arrays:=s.arrays.set n (a.set j y) } (W.setCell ⟨g,j,none⟩ (.int .i64 y))
theorem xV {base bs fuel bm:Nat} {w:World} {D:Foot} {s:RunS} (hM:Mach base bs fuel w bm D s) (hB:base <= w.heap.size) (hck:s.checks <= 200000) {n:Nat} {a:List Int} (hn:s.arrays[n]? = some a) (ha:a.length <= 4096) (i:Int) (hi:In64 i) (look:Bool) :
  Calls Tryz.prog 192 #[.pointer (some ⟨bm,0,none⟩),.int .i64 n,.int .i64 i,.bool look] w (aIH base bs fuel w bm D n a i look s):=by
 obtain ⟨ov,av,vv,cv,mv,m,F,hP,hD⟩:=hM
 have HP:=h! hP
 have HD:=h! hD
 have BM:=h! hP.box
 obtain ⟨ga,cap,c,ad,rfl,hgal,hSga,hcell,hints,hop⟩:=hP.arr.open hn
 have hnl:=(aE.1 hn).1
 have hgm:ga ≠ bm:=fun e=>hP.apart 2 0 (by omega) ga hSga ((hP.b0 ga).2 e)
 have HOP:=h! hop
 have HN:=h! hn
 clear hP hD hop hints hSga
 obtain ⟨al,hal⟩ : ∃ al,al=a.length:=⟨_,rfl⟩
 obtain ⟨nl,hnl2⟩ : ∃ nl,nl=s.arrays.length:=⟨_,rfl⟩
 have HAL:=h! hal
 rw [<-hal] at hcell ha
 rw [<-hnl2] at HP BM hnl
 clear hal hn hnl2
 have hadd:IntKind.i64.wrap (((s.checks:Nat):Int)+1)=((s.checks+1:Nat):Int):=by rw [kJ ⟨by omega,by omega⟩];omega
 -- behind the look
 have HL:Hid (∃ W,(if look then W=w.setCell ⟨bm,6,none⟩ (.int .i64 ((s.checks:Int)+1)) else W=w)/\Off (Foot.one bm) w W/\MachP base bs fuel W bm (mB look s) ⟨0,0,0⟩ ov (.slice (some ⟨ga,0,none⟩) nl cap) vv cv mv m F):=h! (by
  cases look
  ·exact ⟨w,rfl,Off.refl _ _,HP.out⟩
  exact ⟨_,rfl,Off.set w ⟨bm,6,none⟩ _,HP.out.put (s' := { s with checks:=s.checks+1 }) (o':=⟨0,0,0⟩) 6 (.int .i64 ((s.checks:Int)+1)) rfl HP.out.out HP.out.arr HP.out.vis HP.out.cel rfl⟩)
 obtain ⟨W,hW,hoff,hPW⟩:=HL.out
 have HOFF:=h! hoff
 have HPW:=h! hPW
 clear hoff hPW HL
 have HMB:Hid (∀ k,Foot.one bm k -> ∃ i,F i k):=h! (fun k hk=>⟨0,(HP.out.b0 k).2 hk⟩)
 go_enter Tryz.func192,Tryz.ntmps192
 obtain ⟨lm,cm,fm⟩:=BM.out
 go_upto_region 2 with (fail)
 cases look
 ·obtain rfl:w=W:=hW.symm
  go_upto_region 4 with (fail)
  clear cm fm
  cases h0:decide (i < 0)
  rotate_left
  ·have h00:i < 0:=by simpa using h0
   go_wp2_with fail
   refine (endC 5).mono ?_
   rintro e w1 ⟨rfl,hb⟩
   unfold jW
   go_wp2
   exact ⟨rfl,.inl ⟨.inl h00,rfl,MOk.of HD.out (HPW.out.later hb) (Off.trans (HOFF.out.mono fun k _ hk=>HMB.out k hk) (Off.of_below hb _)) (fun i k hk=>.inl hk)⟩⟩
  have hi0:0 <= i:=by simp at h0;omega
  cases h1:decide ((al:Int) <= i)
  rotate_left
  ·have h11:(a.length:Int) <= i:=by rw [<-HAL.out];simpa using h1
   go_wp2_with fail
   refine (endC 5).mono ?_
   rintro e w1 ⟨rfl,hb⟩
   unfold jW
   go_wp2
   exact ⟨rfl,.inl ⟨.inr h11,rfl,MOk.of HD.out (HPW.out.later hb) (Off.trans (HOFF.out.mono fun k _ hk=>HMB.out k hk) (Off.of_below hb _)) (fun i k hk=>.inl hk)⟩⟩
  obtain ⟨j,rfl⟩ : ∃ j:Nat,i=j:=⟨i.toNat,by omega⟩
  have hjl:j < al:=by simp at h1;omega
  obtain ⟨x,hx⟩ : ∃ x,a[j]? = some x:=⟨_,aB (by rw [<-HAL.out];exact hjl)⟩
  obtain ⟨g,rfl,hSg,hgl,hne,hci,hfi, -⟩:=HOP.out j x hx
  have HX:=h! hx
  have hgb:¬ Foot.one bm g:=fun e=>HP.out.apart 2 0 (by omega) g hSg ((HP.out.b0 g).2 e)
  have HMT:Hid (MAt w bm n g):=h! ⟨ga,nl,cap,al,c,BM.out.at 4 rfl,hcell⟩
  have HCI:=h! ((HOFF.out.cell2 (p:=⟨g,j,none⟩) hgl hgb).trans hci)
  have HFI:=h! ((HOFF.out.frozen2 (p:=⟨g,j,none⟩) hgl hgb).trans (hfi j))
  have HGA:=h! ((HOFF.out.cell2 (p:=⟨ga,n,none⟩) hgal hgm).trans hcell)
  have HSG:=h! hSg
  clear hx hci hfi hgb hSg hcell
  go_wp2
  go_ret
  refine .inr ⟨j,g,x,rfl,HX.out,rfl,HMT.out,(HD.out g).2 ⟨2,HSG.out⟩,MOk.of HD.out HPW.out (HOFF.out.mono fun k _ hk=>HMB.out k hk) (fun i k hk=>.inl hk),HCI.out,HFI.out,fun W' y hb hy => ?_⟩
  have hP2:=HPW.out.later hb
  have hlen:(mB false s).arrays=s.arrays:=rfl
  obtain ⟨ga2,cap2,c2,ad2,hv2,hgal2, -,hcell2, -,hop2⟩:=hP2.arr.open (n:=n) (a:=a) HN.out
  obtain ⟨rfl, -⟩ : ga=ga2/\cap=cap2:=by injection hv2 with q1 q2 q3;injection q1 with q1;injection q1 with q1;exact ⟨q1,q3⟩
  have hgaW:ga < w.heap.size:=aL hgal HOFF.out.size
  have hsame:=(hb.cell (p:=⟨ga,n,none⟩) hgaW).trans HGA.out
  rw [hcell2] at hsame
  obtain ⟨g3,e3,hS3,hg3,hne3, -, -,hset3⟩:=hop2 j x HX.out
  obtain rfl:g=g3:=by
   rw [e3] at hsame
   injection hsame with q
   injection q with q1 q2 q3
   injection q1 with q1
   injection q1 with q1
   exact q1.symm
  have hoff2:=Off.set W' ⟨g,j,none⟩ (.int .i64 y)
  have hbase:base <= W'.heap.size:=aJ hB (aJ HOFF.out.size hb.size)
  refine MOk.of (F':=newF F 2 (F 2)) HD.out (hP2.turn 2 (by omega) (by omega) (s' := { mB false s with arrays:=s.arrays.set n (a.set j y) }) (G:=F 2) (hoff2.mono fun k _ hk=>by cases hk;exact HSG.out) (fun k hk=>.inl hk) hbase (fun e=>by omega) ⟨rfl,rfl⟩ (by rw [if_neg (by omega)]) (by rw [if_pos rfl];exact hset3 y hy) (by rw [if_neg (by omega)]) (by rw [if_neg (by omega)]) (by rw [if_neg (by omega)];exact ⟨rfl,rfl⟩)) ?_ (fun i k hk => ?_)
  ·exact ((HOFF.out.mono fun k _ hk=>HMB.out k hk).trans (Off.of_below hb _)).trans (hoff2.mono fun k _ hk=>by cases hk;exact ⟨2,HSG.out⟩)
  unfold newF at hk
  split at hk
  ·rename_i e;subst e;exact .inl hk
  exact .inl hk
 ·obtain rfl:W=w.setCell ⟨bm,6,none⟩ (.int .i64 ((s.checks:Int)+1)):=hW
  go_upto_region 4 with (fail)
  clear cm fm hadd
  generalize w.setCell ⟨bm,6,none⟩ (.int .i64 ((s.checks:Int)+1))=W at *
  cases h0:decide (i < 0)
  rotate_left
  ·have h00:i < 0:=by simpa using h0
   go_wp2_with fail
   refine (aCO (-2)).mono ?_
   rintro e w1 ⟨rfl,hb⟩
   unfold jW
   go_wp2
   exact ⟨rfl,.inl ⟨.inl h00,rfl,MOk.of HD.out (HPW.out.later hb) (Off.trans (HOFF.out.mono fun k _ hk=>HMB.out k hk) (Off.of_below hb _)) (fun i k hk=>.inl hk)⟩⟩
  have hi0:0 <= i:=by simp at h0;omega
  cases h1:decide ((al:Int) <= i)
  rotate_left
  ·have h11:(a.length:Int) <= i:=by rw [<-HAL.out];simpa using h1
   go_wp2_with fail
   refine (aCO (-2)).mono ?_
   rintro e w1 ⟨rfl,hb⟩
   unfold jW
   go_wp2
   exact ⟨rfl,.inl ⟨.inr h11,rfl,MOk.of HD.out (HPW.out.later hb) (Off.trans (HOFF.out.mono fun k _ hk=>HMB.out k hk) (Off.of_below hb _)) (fun i k hk=>.inl hk)⟩⟩
  obtain ⟨j,rfl⟩ : ∃ j:Nat,i=j:=⟨i.toNat,by omega⟩
  have hjl:j < al:=by simp at h1;omega
  obtain ⟨x,hx⟩ : ∃ x,a[j]? = some x:=⟨_,aB (by rw [<-HAL.out];exact hjl)⟩
  obtain ⟨g,rfl,hSg,hgl,hne,hci,hfi, -⟩:=HOP.out j x hx
  have HX:=h! hx
  have hgb:¬ Foot.one bm g:=fun e=>HP.out.apart 2 0 (by omega) g hSg ((HP.out.b0 g).2 e)
  have HMT:Hid (MAt w bm n g):=h! ⟨ga,nl,cap,al,c,BM.out.at 4 rfl,hcell⟩
  have HCI:=h! ((HOFF.out.cell2 (p:=⟨g,j,none⟩) hgl hgb).trans hci)
  have HFI:=h! ((HOFF.out.frozen2 (p:=⟨g,j,none⟩) hgl hgb).trans (hfi j))
  have HGA:=h! ((HOFF.out.cell2 (p:=⟨ga,n,none⟩) hgal hgm).trans hcell)
  have HSG:=h! hSg
  clear hx hci hfi hgb hSg hcell
  go_wp2
  go_ret
  refine .inr ⟨j,g,x,rfl,HX.out,rfl,HMT.out,(HD.out g).2 ⟨2,HSG.out⟩,MOk.of HD.out HPW.out (HOFF.out.mono fun k _ hk=>HMB.out k hk) (fun i k hk=>.inl hk),HCI.out,HFI.out,fun W' y hb hy => ?_⟩
  have hP2:=HPW.out.later hb
  have hlen:(mB true s).arrays=s.arrays:=rfl
  obtain ⟨ga2,cap2,c2,ad2,hv2,hgal2, -,hcell2, -,hop2⟩:=hP2.arr.open (n:=n) (a:=a) HN.out
  obtain ⟨rfl, -⟩ : ga=ga2/\cap=cap2:=by injection hv2 with q1 q2 q3;injection q1 with q1;injection q1 with q1;exact ⟨q1,q3⟩
  have hgaW:ga < W.heap.size:=aL hgal HOFF.out.size
  have hsame:=(hb.cell (p:=⟨ga,n,none⟩) hgaW).trans HGA.out
  rw [hcell2] at hsame
  obtain ⟨g3,e3,hS3,hg3,hne3, -, -,hset3⟩:=hop2 j x HX.out
  obtain rfl:g=g3:=by
   rw [e3] at hsame
   injection hsame with q
   injection q with q1 q2 q3
   injection q1 with q1
   injection q1 with q1
   exact q1.symm
  have hoff2:=Off.set W' ⟨g,j,none⟩ (.int .i64 y)
  have hbase:base <= W'.heap.size:=aJ hB (aJ HOFF.out.size hb.size)
  refine MOk.of (F':=newF F 2 (F 2)) HD.out (hP2.turn 2 (by omega) (by omega) (s' := { mB true s with arrays:=s.arrays.set n (a.set j y) }) (G:=F 2) (hoff2.mono fun k _ hk=>by cases hk;exact HSG.out) (fun k hk=>.inl hk) hbase (fun e=>by omega) ⟨rfl,rfl⟩ (by rw [if_neg (by omega)]) (by rw [if_pos rfl];exact hset3 y hy) (by rw [if_neg (by omega)]) (by rw [if_neg (by omega)]) (by rw [if_neg (by omega)];exact ⟨rfl,rfl⟩)) ?_ (fun i k hk => ?_)
  ·exact ((HOFF.out.mono fun k _ hk=>HMB.out k hk).trans (Off.of_below hb _)).trans (hoff2.mono fun k _ hk=>by cases hk;exact ⟨2,HSG.out⟩)
  unfold newF at hk
  split at hk
  ·rename_i e;subst e;exact .inl hk
  exact .inl hk
section
variable {P:Program} {ops:Array Oper}
def Oper.callsOne (P:Program) (o:Oper) (a:Act) (w:World) (D:Nat -> Prop) (v:Value) (T:World -> Prop) (Z:List PanicEntry -> World -> Prop):Prop :=
 ∃ f args,(execOp a.eval o).run P w = .ok (.enter f args) w/\Calls P f args w fun e w'=>(e = .returned v/\T w') \/ ∃ ch,e = .panicked ch/\Z ch w'
def iE (P:Program) (ops:Array Oper) (w0:World) (p:Nat) (D:Nat -> Prop) (v:Value) (T:World -> Prop) (Z:List PanicEntry -> World -> Prop) (L:Act -> World -> Prop):List Oper -> Nat -> Act -> Prop
 | [],_,a => ∀ w',T w' -> L a w'
 | o :: rest,k,a =>
  if k=p then (Region.wanted o (yielded ops a.tmps)=true /\ ∀ w',Below w0.heap.size w0 w' -> Oper.callsOne P o a w' D v T Z)/\iE P ops w0 p D v T Z L rest (k+1) (a.put o.dst v)
  else if Region.wanted o (yielded ops a.tmps) then ∃ v',(∀ w',(Below w0.heap.size w0 w' \/ T w') -> Oper.yields P o a w' v')/\iE P ops w0 p D v T Z L rest (k+1) (a.put o.dst v')
  else iE P ops w0 p D v T Z L rest (k+1) (a.put o.dst undef)
section
variable {w0:World} {p:Nat} {D:Nat -> Prop} {v:Value} {T:World -> Prop} {Z:List PanicEntry -> World -> Prop} {L:Act -> World -> Prop} {o:Oper} {rest:List Oper} {k:Nat} {a:Act}
theorem iE.val {v' : Value} (hk:k ≠ p) (hg:Region.wanted o (yielded ops a.tmps)=true)
  (hy:∀ w',(Below w0.heap.size w0 w' \/ T w') -> (execOp a.eval o).run P w' = .ok (.value v') w') (h:iE P ops w0 p D v T Z L rest (k+1) (a.put o.dst v')):iE P ops w0 p D v T Z L (o :: rest) k a:=by
 simp only [iE,hg,if_true,if_neg hk]
 exact ⟨v',fun w' h1=>⟨w',.inl (hy w' h1),Below.refl _ _⟩,h⟩
theorem iE.call {f:FuncId} {args:Array Value} (hk:k=p) (hg:Region.wanted o (yielded ops a.tmps)=true)
  (hrun:∀ w' : World,(execOp a.eval o).run P w' = .ok (.enter f args) w') (hy:∀ w',Below w0.heap.size w0 w' -> Calls P f args w' fun e w''=>(e = .returned v/\T w'') \/ ∃ ch,e = .panicked ch/\Z ch w'')
  (h:iE P ops w0 p D v T Z L rest (k+1) (a.put o.dst v)):iE P ops w0 p D v T Z L (o :: rest) k a:=by
 simp only [iE,if_pos hk]
 exact ⟨⟨hg,fun w' h1=>⟨f,args,hrun w',hy w' h1⟩⟩,h⟩
theorem iE.skip (hk:k ≠ p) (hg:Region.wanted o (yielded ops a.tmps)=false) (h:iE P ops w0 p D v T Z L rest (k+1) (a.put o.dst undef)):iE P ops w0 p D v T Z L (o :: rest) k a:=by
 simp only [iE,hg,if_neg hk]
 exact h
end
def aE1 (P:Program) (ops:Array Oper) (w0:World) (p:Nat) (D:Nat -> Prop) (v:Value) (T:World -> Prop) (Z:List PanicEntry -> World -> Prop) (o:Oper) (k:Nat) (a:Act) (u:Value):Prop :=
 (k=p/\u=v/\Region.wanted o (yielded ops a.tmps)=true /\ ∀ w',Below w0.heap.size w0 w' -> Oper.callsOne P o a w' D v T Z) \/
 (k ≠ p/\Region.wanted o (yielded ops a.tmps)=true /\ ∀ w',(Below w0.heap.size w0 w' \/ T w') -> Oper.yields P o a w' u) \/
 (k ≠ p/\Region.wanted o (yielded ops a.tmps)=false/\u=undef)
theorem aHA {n:Nat} {w0:World} {p:Nat} {D:Nat -> Prop} {v:Value} {T:World -> Prop} {Z:List PanicEntry -> World -> Prop} {L:Act -> World -> Prop} {a0:Act} (ht:lE ops n=true) :
  ∀ (l:List Oper) (k:Nat) (a:Act) (v0:Nat -> Value),(∀ j,j < l.length -> ops[k+j]? = l[j]?) -> k+l.length=n -> Fr ops n a0 v0 (· < k) a -> iE P ops w0 p D v T Z L l k a ->
   ∃ vals:Nat -> Value,(∀ j,j < k -> vals j=v0 j)/\(∀ j o,ops[j]? = some o -> k <= j -> j < n -> ∃ b,Fr ops n a0 vals (· < j) b/\aE1 P ops w0 p D v T Z o j b (vals j)) /\
    ∃ b,Fr ops n a0 vals (· < n) b /\ ∀ w',T w' -> L b w'
 | [],k,a,v0,_,hk,hf,h=>by
  have hk' : k=n:=by simpa using hk
  subst hk'
  exact ⟨v0,fun _ _=>rfl,fun j o _ h1 h2=>by omega,a,hf,h⟩
 | o :: rest,k,a,v0,hl,hk,hf,h=>by
  simp only [bB] at hk
  have ho:ops[k]? = some o:=by simpa using hl 0 (by simp)
  have hl' : ∀ j,j < rest.length -> ops[k+1+j]? = rest[j]?:=fun j hj=>by
   have:=hl (j+1) (by simp;omega)
   simpa [Nat.add_assoc,Nat.add_comm 1 j] using this
  have key:∃ u,aE1 P ops w0 p D v T Z o k a u/\iE P ops w0 p D v T Z L rest (k+1) (a.put o.dst u):=by
   simp only [iE] at h
   by_cases hkp:k=p
   ·rw [if_pos hkp] at h
    exact ⟨v,.inl ⟨hkp,rfl,h.1.1,h.1.2⟩,h.2⟩
   rw [if_neg hkp] at h
   by_cases hw:Region.wanted o (yielded ops a.tmps)=true
   ·simp only [hw,if_true] at h
    obtain ⟨u,h2,h3⟩:=h
    exact ⟨u,.inr (.inl ⟨hkp,hw,h2⟩),h3⟩
   simp only [dI] at hw
   simp only [hw,bL,if_false] at h
   exact ⟨undef,.inr (.inr ⟨hkp,hw,rfl⟩),h⟩
  obtain ⟨u,hs,hg⟩:=key
  let v1:Nat -> Value:=fun j=>if j=k then u else v0 j
  have e1:∀ j,j < k -> v1 j=v0 j:=fun j hj=>by simp only [v1];rw [if_neg (by omega)]
  have ek:v1 k=u:=by simp [v1]
  have hf1:Fr ops n a0 v1 (· < k) a:=hf.congr (fun j _ hj=>(e1 j hj).symm) (fun _ _=>Iff.rfl)
  have hf2:=hf1.put ht ho (by omega)
  rw [ek] at hf2
  have hf3:Fr ops n a0 v1 (· < k+1) (a.put o.dst u):=hf2.congr (fun _ _ _=>rfl) (fun j _=>by omega)
  obtain ⟨vals,hv,hst,hd⟩:=aHA ht rest (k+1) _ v1 hl' (by omega) hf3 hg
  refine ⟨vals,fun j hj=>(hv j (by omega)).trans (e1 j hj),fun j oj hj hkj hjn => ?_,hd⟩
  by_cases hjk:j=k
  ·subst hjk
   rw [ho] at hj
   cases hj
   refine ⟨a,hf1.congr (fun i _ hi=>(hv i (by omega)).symm) (fun _ _=>Iff.rfl), ?_⟩
   rw [hv j (by omega),ek]
   exact hs
  exact hst j oj hj (by omega) hjn
theorem aE2 {n:Nat} {w0:World} {p:Nat} {D:Nat -> Prop} {v:Value} {T:World -> Prop} {Z:List PanicEntry -> World -> Prop} {Q:Exit -> Act -> World -> Prop} {tail:List Oper} {a0:Act} (hB:jJ ops n=true) (hp:p < n) {vals:Nat -> Value}
  (htail:∀ j,tail[j]? = ops[n+j]?) (hT:∀ w w',T w -> Below w.heap.size w w' -> T w')
  (hst:∀ j o,ops[j]? = some o -> j < n -> ∃ b,Fr ops n a0 vals (· < j) b/\aE1 P ops w0 p D v T Z o j b (vals j)) (hdone:∃ b,Fr ops n a0 vals (· < n) b /\ ∀ w',T w' -> wpList P ops Q tail b w') (hQ:∀ ch a' w',a'.defers=a0.defers -> Z ch w' -> Q (.panic ch) a' w') :
  ∀ (m:Nat) (listed:Array Bool) (a:Act) (w:World),HeadInv .any ops n listed -> cnt listed n=m ->
   ((listed.getD p true=false/\Below w0.heap.size w0 w) \/ (listed.getD p false=true/\T w)) -> Fr ops n a0 vals (fun j=>listed.getD j false=true) a -> wpAny P .any ops Q (m+(ops.size - n)) listed a w:=by
 simp only [jJ,aN,bQ,decide_eq_true_eq,beq_iff_eq] at hB
 obtain ⟨⟨⟨⟨⟨hsel,hn⟩,hed⟩,ht⟩,hsc⟩,hseq⟩:=hB
 intro m
 induction m with
 | zero =>
  intro listed a w inv hcnt hpw hfr
  have hlen:tail.length=ops.size - n:=by
   apply dV
   ·by_cases hle:tail.length <= ops.size - n
    ·exact hle
    have h1:=htail (ops.size - n)
    rw [bA (by omega)] at h1
    have:=dD.1 h1
    omega
   by_cases hle:ops.size - n <= tail.length
   ·exact hle
   have h1:=htail tail.length
   rw [aW (aF _)] at h1
   have:=cA.1 h1.symm
   omega
  have hl:∀ j,j < n -> listed.getD j false=true:=fun j hj=>fI (jI n hcnt j hj) (by rw [inv.size];omega)
  have hlist:listed=fP ops.size n:=by
   apply dF
   intro j
   by_cases hj:j < ops.size
   ·have e2:(fP ops.size n)[j]? = some (decide (j < n)):=by simp [fP,hj]
    rw [e2]
    by_cases hjn:j < n
    ·have:=hl j hjn
     rw [bI] at this
     cases hx:listed[j]? with
     | none=>rw [hx] at this;cases this
     | some b=>rw [hx] at this;simp at this;rw [this,decide_eq_true hjn]
    have:=inv.tail j (by omega) hj
    rw [bI] at this
    cases hx:listed[j]? with
    | none=>rw [hx] at this;cases this
    | some b=>rw [hx] at this;simp at this;rw [this,decide_eq_false hjn]
   rw [bA (by rw [inv.size];omega),bA (by simp [fP];omega)]
  have hTw:T w:=by
   rcases hpw with ⟨h1,_⟩ | ⟨_,h2⟩
   ·have:=jI n hcnt p hp
    rw [this] at h1;cases h1
   exact h2
  obtain ⟨b,hb1,hb2⟩:=hdone
  have hab:a=b:=hfr.eq hb1 fun j hj=>⟨fun _=>hj,fun _=>hl j hj⟩
  subst hab
  have:=wpAny_of_seq (md:=.any) (Q':=Q) tail n listed a w htail (by rw [hlist,hlen];exact hseq) (hb2 w hTw)
  rw [hlen] at this
  rw [bH]
  exact this
 | succ m ih =>
  intro listed a w inv hcnt hpw hfr
  rw [show m+1+(ops.size - n)=(m+(ops.size - n))+1 by omega]
  obtain ⟨k0,hk0,hu0,hless⟩:=jR (listed:=listed) n (by omega)
  have hready0:k0 ∈ Region.ready .any ops listed:=by
   refine mem_ready.2 ⟨hu0,ops[k0],bC (by omega),fun e he hbi => ?_⟩
   have:=iD hed hk0 (bC (by omega)) he hbi
   exact fI (hless _ this) (by rw [inv.size];omega)
  refine ⟨fun h0=>(by rw [h0] at hready0;cases hready0),fun i hi => ?_⟩
  have hin:i < n:=by
   rcases dC i n with h | h
   ·exact h
   rcases hsc with h1 | h1
   ·obtain ⟨_,o,ho,_⟩:=mem_ready.1 hi
    have:=(aS.1 ho).1
    omega
   by_cases hns:n < ops.size
   ·exact absurd hi (tail_waits h1.1 h1.2 hns inv _ k0 rfl hk0 hu0 i h)
   obtain ⟨_,o,ho,_⟩:=mem_ready.1 hi
   have:=(aS.1 ho).1
   omega
  obtain ⟨hun,o,ho,hedge⟩:=mem_ready.1 hi
  have hinv':=inv.set hi hin
  have hcnt' : cnt (listed.setIfInBounds i true) n=m:=by
   have:=(mH (by rw [inv.size];omega) hun n).2 hin
   omega
  have hset:∀ j,(listed.setIfInBounds i true).getD j false=true ↔ (j=i \/ listed.getD j false=true):=fun j=>by
   by_cases e:i=j
   ·subst e
    have:i < listed.size:=by rw [inv.size];omega
    simp [this]
   rw [getD_set_ne false e]
   exact ⟨fun h=>.inr h,fun h=>h.resolve_left (fun e'=>e e'.symm)⟩
  obtain ⟨b,hfb,hstep⟩:=hst i o ho hin
  have hlook:∀ d,d ∈ o.looksAt ops -> a.tmps[d]? = b.tmps[d]?:=fun d hd=>Fr.same ht hfr hfb ho hin (fun j hj he hji=>by
   obtain ⟨oj,hoj,e,hem,hbi,hon⟩:=fT he
   rw [ho] at hoj
   cases hoj
   exact ⟨by rw [<-hon];exact hedge e hem hbi,hji,rfl⟩) d hd
  obtain ⟨ex,ew⟩:=iN (ops:=ops) (o:=o) (fun cs b=>Region.noSelect_spec hsel i o cs b ho) hlook
  have hw0:Below w0.heap.size w0 w \/ T w:=hpw.imp (fun h=>h.2) (fun h=>h.2)
  have next:i ≠ p -> ∀ (w' : World),Below w.heap.size w w' -> wpAny P .any ops Q (m+(ops.size - n)) (listed.setIfInBounds i true) (a.put o.dst (vals i)) w':=fun hip w' hg=>by
   refine ih _ _ _ hinv' hcnt' ?_ ((hfr.put ht ho hin).congr (fun _ _ _=>rfl) (fun j _=>(hset j).symm))
   rcases hpw with ⟨h1,h2⟩ | ⟨h1,h2⟩
   ·left
    exact ⟨by rw [getD_set_ne true hip];exact h1,Below.more h2 h2.size hg⟩
   right
   exact ⟨(hset p).2 (.inr h1),hT w w' h2 hg⟩
  unfold wpOp
  simp only [ho]
  rw [ew]
  rcases hstep with ⟨hip,hvv,hw,hy⟩ | ⟨hip,hw,hy⟩ | ⟨hip,hw,hv⟩
  ·rw [if_pos hw]
   left
   subst hip
   have hbw:Below w0.heap.size w0 w:=by
    rcases hpw with ⟨_,h2⟩ | ⟨h1,_⟩
    ·exact h2
    rw [getD_both hun] at h1;cases h1
   obtain ⟨f,args,hr,hcall⟩:=hy w hbw
   unfold Oper.wp
   rw [ex,hr,Oper.upon_enter]
   refine hcall.mono fun e w' hz => ?_
   rcases hz with ⟨he,hz⟩ | ⟨ch,he,hz⟩
   ·subst he
    show wpAny P .any ops Q (m+(ops.size - n)) (listed.setIfInBounds i true) (a.put o.dst v) w'
    rw [<-hvv]
    exact ih _ _ _ hinv' hcnt' (.inr ⟨(hset i).2 (.inl rfl),hz⟩) ((hfr.put ht ho hin).congr (fun _ _ _=>rfl) (fun j _=>(hset j).symm))
   subst he
   exact hQ ch _ w' hfr.defers hz
  ·rw [if_pos hw]
   left
   obtain ⟨w',hr,hg⟩:=hy w hw0
   unfold Oper.wp
   rw [ex]
   rcases hr with hr | ⟨hr,hv⟩
   ·rw [hr];exact next hip w' hg
   rw [hr,Oper.upon_skip, <-hv];exact next hip w' hg
  rw [hw]
  simp only [bL,if_false]
  rw [<-hv]
  exact next hip w (Below.refl _ _)
theorem jM {id:Nat} {Q:Exit -> Act -> World -> Prop} {a:Act} {w:World} {l:List Oper} (n p:Nat) (D:Nat -> Prop) (v:Value) (T:World -> Prop) (Z:List PanicEntry -> World -> Prop) (hm:P.follows .mixedOrders=true) (hB:jJ l.toArray n=true) (hp:p < n)
  (hT:∀ w w',T w -> Below w.heap.size w w' -> T w') (hQ:∀ ch a' w',a'.defers=a.defers -> Z ch w' -> Q (.panic ch) a' w') (h:iE P l.toArray w p D v T Z (wpList P l.toArray Q (l.drop n)) (l.take n) 0 a):(Code.region id l.toArray true).wp P Q a w:=by
 have hB':=hB
 simp only [jJ,aN,bQ,decide_eq_true_eq,beq_iff_eq] at hB
 obtain ⟨⟨⟨⟨⟨hsel,hn⟩,hed⟩,ht⟩,hsc⟩,hseq⟩:=hB
 have hn' : n <= l.length:=by simpa using hn
 obtain ⟨vals, -,hst,hdone⟩:=aHA (P:=P) (ops:=l.toArray) ht (l.take n) 0 a (fun _=>undef) (fun j hj=>by
  have hj' : j < n:=by simp at hj;omega
  simp [hj']) (by simp;omega) (Fr.start fun j _ hj=>by omega) h
 refine wp_region_any hm ?_
 have inv0:HeadInv .any l.toArray n (Array.replicate l.toArray.size false) :=
  ⟨by simp,fun j oj _ hl=>(by rw [getD_replicate_false] at hl;cases hl),fun t _ ht=>getD_in (by simpa using ht) (getD_replicate_false _ _)⟩
 have hc:∀ m,m <= l.toArray.size -> cnt (Array.replicate l.toArray.size false) m=m:=by
  intro m
  induction m with
  | zero=>intro _;rfl
  | succ m ih =>
   intro hm
   have:(Array.replicate l.toArray.size false).getD m true=false:=getD_in (by simp at hm ⊢;omega) (getD_replicate_false _ _)
   simp only [cnt]
   rw [ih (by omega),this]
   simp
 have:=aE2 (P:=P) (Q:=Q) (tail:=l.drop n) hB' hp (fun j=>by simp [cH]) hT (fun j o ho hj=>hst j o ho (aP _) hj) hdone hQ n (Array.replicate l.toArray.size false) a w.drew inv0 (hc n hn) (.inl ⟨getD_in (by simp;omega) (getD_replicate_false _ _),(Below.refl _ w).drew⟩)
  (Fr.start fun j _ hl=>by rw [getD_replicate_false] at hl;cases hl)
 rw [show n+(l.toArray.size - n)=l.toArray.size by omega] at this
 exact this
end
end Go.Proofs.YtcmflfkpeodicaaGreat
