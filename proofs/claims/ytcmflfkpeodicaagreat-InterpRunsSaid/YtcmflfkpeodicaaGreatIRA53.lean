/- Part 53. -/
import Derived.Test.YtcmflfkpeodicaaGreatIRA52
namespace Go.Proofs.YtcmflfkpeodicaaGreat
set_option linter.all false
open Go.RowKit
theorem xH {L:List Int} (h:Rise L) (h0:∀ x ∈ L,0 <= x) {np:Nat} (hm:∀ k:Nat,k < np -> (k:Int) ∈ L):∀ k:Nat,k < np -> L[k]? = some (k:Int):=by
 intro k
 induction k using Nat.strongRecOn with
 | ind k ih =>
  intro hk
  obtain ⟨j,hj⟩:=bP (hm k hk)
  have hjl:=(aE.1 hj).1
  by_cases e:j=k
  ·rw [<-e,hj];subst e;rfl
  exfalso
  by_cases hjk:j < k
  ·have h1:=ih j hjk (by omega)
   rw [hj] at h1
   injection h1 with h1
   omega
  have hlt:L[k]'(by omega) < (k:Int):=by
   have:=h.lt (aB (i:=k) (by omega)) hj (by omega)
   exact this
  have h1:=h0 _ (dJ (l:=L) (n:=k) (by omega))
  rcases Nat.eq_zero_or_pos k with hz | hz
  ·subst hz;omega
  have h2:=ih (k - 1) (by omega) (by omega)
  have h3:=h.lt h2 (aB (i:=k) (by omega)) (by omega)
  omega
theorem tO {f:FuncD} (h:idsF f=true) {id:Int} (hm:id ∈ (eR f).map (·.1)):0 <= id:=by
 unfold eR at hm
 rw [bF,aO,kO] at hm
 rcases hm with hm | hm
 ·obtain ⟨k,_,rfl⟩:=aY.1 hm
  omega
 obtain ⟨p,hp,rfl⟩:=aY.1 hm
 unfold idsF idsB at h
 simp only [aN,aZ,decide_eq_true_eq,eA,decide_eq_false_iff_not] at h
 have:=(h.2 p hp).1
 omega
theorem aGV {f:FuncD} {k:Nat} (hk:k < f.params.length):(k:Int) ∈ (eR f).map (·.1):=by
 unfold eR
 rw [bF,aO,kO]
 exact .inl (aY.2 ⟨k,cO.2 hk,rfl⟩)
theorem tP {f:FuncD} {i:InputD} {k n:Nat} (h:i.args.length <= k) (hk:k <= n):eY f i k 0=eY f i n 0:=by
 induction n with
 | zero=>rw [show k=0 by omega]
 | succ n ih =>
  by_cases e:k=n+1
  ·rw [e]
  rw [ih (by omega)];exact pL (by omega)
theorem oQ (W:World) {n:Nat} (hn:n <= 100000):eM (W.alloc (.cells (madeCells #[.int .i64 0] n) 3)) (Foot.one W.heap.size) (.slice (some ⟨W.heap.size,0,none⟩) n n) (List.replicate n 0):=by
 refine lY ?_ hn
 have:madeCells #[Value.int .i64 0] n=(List.replicate n (Value.int .i64 0)).toArray:=by
  rw [<-toList_madeCells_one]
 rw [<-this]
 show (W.heap.push _)[W.heap.size]? = _
 simp
def aCA (b gv gx gc:Nat):Nat -> Foot
 | 0=>Foot.one b
 | 3=>Foot.one gv
 | 4=>Foot.one gx
 | 5=>Foot.one gc
 | _=>Foot.none
theorem mX {b gv gx gc i k:Nat} (h:aCA b gv gx gc i k):(i=0/\k=b) \/ (i=3/\k=gv) \/ (i=4/\k=gx) \/ (i=5/\k=gc):=by
 rcases i with _ | _ | _ | _ | _ | _ | i
 ·exact .inl ⟨rfl,h⟩
 ·exact h.elim
 ·exact h.elim
 ·exact .inr (.inl ⟨rfl,h⟩)
 ·exact .inr (.inr (.inl ⟨rfl,h⟩))
 ·exact .inr (.inr (.inr ⟨rfl,h⟩))
 exact h.elim
theorem RefP.made {c:RefC} {W:World} {b gv gx gc nb cn il:Nat} {f:FuncD} {i:InputD} {vv xv cv:Value} (hn:nb=f.blocks.length) (hc:(cn:Int)=f.cells) (hil:il=c.ids.length)
  (hb:Box W b #[c.fa,.int .i64 c.ar,.int .i64 c.ce,c.fb,.int .i64 0,.int .i64 0,.int .i64 0,.slice none 0 0,.slice none 0 0,.int .i64 0,.int .i64 0,vv,.int .i64 c.fuel,c.iv,xv,cv,.bool false])
  (hv:eM W (Foot.one gv) vv (List.replicate nb 0)) (hx:eM W (Foot.one gx) xv (List.replicate il 0)) (hcl:eM W (Foot.one gc) cv (List.replicate cn 0)) (hd:c.base <= b/\c.base <= gv/\c.base <= gx/\c.base <= gc/\b ≠ gv/\b ≠ gx/\b ≠ gc/\gv ≠ gx/\gv ≠ gc/\gx ≠ gc) :
  RefP c W b (eY f i 0 0) ⟨0,0,0⟩ false (.slice none 0 0) (.slice none 0 0) vv xv cv (aCA b gv gx gc):=by
 have hcn:f.cells.toNat=cn:=by omega
 refine ⟨hb,fun k=>Iff.rfl,eM.nil none,OSl.nil none, ?_, ?_, ?_,fun id => ?_,fun i j hij k h1 h2 => ?_,fun i k h => ?_,fun i k h => ?_⟩
 ·show eM W (Foot.one gv) vv (natI (List.replicate f.blocks.length 0))
  rw [tB, <-hn];exact hv
 ·have h9:c.ids.map (eY f i 0 0).vals=List.replicate il 0:=by
   rw [List.eq_replicate_iff]
   refine ⟨by rw [bD,hil],fun x hx => ?_⟩
   rw [aY] at hx
   obtain ⟨id,_,rfl⟩:=hx
   exact kW f i id
  show eM W (Foot.one gx) xv (c.ids.map (eY f i 0 0).vals)
  rw [h9];exact hx
 ·show eM W (Foot.one gc) cv (List.replicate f.cells.toNat 0)
  rw [hcn];exact hcl
 ·rw [kW];exact ⟨by decide,by decide⟩
 ·have:=mX h1;have:=mX h2;omega
 ·have:=mX h;omega
 ·have:=mX h;omega
theorem RefP.arrs {c:RefC} {W W1:World} {b:Nat} {s:RunS} {ov av vv xv cv u:Value} {F:Nat -> Foot} {G:Foot} {xs:List (List Int)} (h:RefP c W b s ⟨0,0,0⟩ false ov av vv xv cv F) (ho:Off (F 2) W W1) (hG:∀ k,G k -> F 2 k \/ W.heap.size <= k) (hB:c.base <= W.heap.size)
  (hu:iG W1 G u xs):RefP c (W1.setCell ⟨b,8,none⟩ u) b { s with arrays:=xs } ⟨0,0,0⟩ false ov u vv xv cv (newF F 2 G):=by
 have hne:∀ j,j ≠ 2 -> (F j).off (F 2):=fun j hj=>h.apart j 2 hj
 have hap:=jO (i:=2) (G:=G) h.apart (fun _ _ hk=>h.lt hk) hG
 have hoff:=Off.set W1 ⟨b,8,none⟩ u
 have hb0:newF F 2 G 0 b:=by rw [eV F 2 G (by omega)];exact (h.b0 b).2 rfl
 have hq:∀ j,j ≠ 0 -> (newF F 2 G j).off (Foot.one b):=fun j hj k hk e=>hap j 0 hj k hk (by cases e;exact hb0)
 have hq' : ∀ j,j ≠ 0 -> j ≠ 2 -> (F j).off (Foot.one b):=fun j hj hj1=>by have h9:=hq j hj;rwa [eV F 2 G hj1] at h9
 have hbx:=(h.box.off ho (fun e=>h.apart 0 2 (by omega) _ ((h.b0 _).2 rfl) e)).set 8 u
 refine ⟨hbx,by rw [eV F 2 G (by omega)];exact h.b0, ?_, ?_, ?_, ?_, ?_,h.v64,hap, ?_, ?_⟩
 ·rw [eV F 2 G (by omega)];exact (h.out.off ho (hne 1 (by omega))).off hoff (hq' 1 (by omega) (by omega))
 ·have h9:=hq 2 (by omega)
  rw [iQ] at h9 ⊢
  exact hu.off OLis.nice hoff h9
 ·rw [eV F 2 G (by omega)];exact (h.vis.off ho (hne 3 (by omega))).off hoff (hq' 3 (by omega) (by omega))
 ·rw [eV F 2 G (by omega)];exact (h.val.off ho (hne 4 (by omega))).off hoff (hq' 4 (by omega) (by omega))
 ·rw [eV F 2 G (by omega)];exact (h.cel.off ho (hne 5 (by omega))).off hoff (hq' 5 (by omega) (by omega))
 ·intro j k hk
  unfold newF at hk
  by_cases e:j=2
  ·omega
  rw [if_neg e] at hk;exact h.six j k hk
 ·intro j k hk
  unfold newF at hk
  by_cases e:j=2
  ·rw [if_pos e] at hk
   rcases hG k hk with h9 | h9
   ·exact h.base 2 k h9
   omega
  rw [if_neg e] at hk;exact h.base j k hk
theorem RefP.trace {c:RefC} {W:World} {b:Nat} {s:RunS} {o:OverD} {dead:Bool} {ov av vv xv cv:Value} {F:Nat -> Foot} (h:RefP c W b s o dead ov av vv xv cv F) :
  lP W (fun k=>F 1 k \/ F 2 k \/ F 3 k) (.agg #[.int .i64 o.how,.int .i64 o.value,.int .i64 o.trap,ov,av,.int .i64 s.steps,.int .i64 s.checks,vv]) (qD o s):=by
 have hl:∀ k,(F 1 k \/ F 2 k \/ F 3 k) -> k < W.heap.size:=fun k hk=>by
  rcases hk with hk | hk | hk
  ·exact h.lt hk
  ·exact h.lt hk
  exact h.lt hk
 exact ⟨_,_,_,rfl,h.out.wide (fun k hk=>.inl hk) hl,h.arr.wide (fun k hk=>.inr (.inl hk)) hl,h.vis.wide (fun k hk=>.inr (.inr hk)) hl⟩
def stepsR (W:World) (b fuel:Nat):Nat:=match W.cell? ⟨b,16,none⟩ with
 | some (.bool true)=>0
 | _=>match W.cell? ⟨b,9,none⟩ with
  | some (.int _ n)=>fuel+1 - n.toNat
  | _=>0
theorem RefM.stepsR {c:RefC} {W:World} {b:Nat} {D:Foot} {s:RunS} {o:OverD} {dead:Bool} {fuel:Nat} (h:RefM c W b D s o dead):stepsR W b fuel=if dead then 0 else fuel+1 - s.steps:=by
 obtain ⟨_,_,_,_,_,hb⟩:=h.box
 unfold Go.Proofs.YtcmflfkpeodicaaGreat.stepsR
 rw [hb.at 16 rfl,hb.at 9 rfl]
 cases dead <;> simp
end Go.Proofs.YtcmflfkpeodicaaGreat
