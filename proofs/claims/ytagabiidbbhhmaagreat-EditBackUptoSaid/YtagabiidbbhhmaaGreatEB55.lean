/- Part 55. -/
import Derived.Test.YtagabiidbbhhmaaGreatEB48
namespace Go.Proofs.YtagabiidbbhhmaaGreat
set_option linter.all false
open Go.RowKit Go.ChangeShapes Go.WideShapes Go.ChangeAt
theorem aCJ {H:Type} (d:DataW H):1 <= Rows.uptoBulk d:=by
 cases d with
 | lit l=>cases l <;> simp [Rows.uptoBulk]
 | nil=>simp [Rows.uptoBulk]
 | ptr d=>simp [Rows.uptoBulk]
 | slice elems spare=>simp [Rows.uptoBulk]
 | agg parts=>simp [Rows.uptoBulk]
 | iface t d=>simp [Rows.uptoBulk]
 | map entries=>simp [Rows.uptoBulk]
 | held h=>simp [Rows.uptoBulk]
theorem aCK {H:Type} (l:List (DataW H)):l.length <= Rows.uptoBulkAll l:=by
 induction l with
 | nil=>simp [Rows.uptoBulkAll]
 | cons x r ih=>have:=aCJ x;simp only [Rows.uptoBulkAll,aZ];omega
theorem lN {H:Type} {enc:TypeId × Value -> H} {P:Program} {W:World} {t e:TypeId} {fuel:Nat} {a:Option Addr} {n c:Nat} {x:DataW H × List MemPlace} (ht:P.underlying t=some (.slice e))
  (h:DataW.trod enc P W 0 (fun _=>true) true fuel t [.slice a n c]=some x):n <= Rows.uptoBulk x.1:=by
 rcases Go.Deep.open_slice ht h with ⟨he,_⟩ | ⟨a',len,cap,m,n',D,Pl,he,_,hl,hm,hmm,hx,hel⟩
 ·injection he with he _
  injection he with _ h2 _
  omega
 ·injection he with he _
  injection he with _ h2 _
  rw [hx]
  simp only [Rows.uptoBulk]
  have:=aCK ((List.range len).map D)
  rw [bE,List.length_range] at this
  omega
theorem aCL {H:Type} {l:List (DataW H)} {d:DataW H} (h:d ∈ l):Rows.uptoBulk d <= Rows.uptoBulkAll l:=by
 induction l with
 | nil=>cases h
 | cons x r ih =>
  simp only [Rows.uptoBulkAll]
  rcases bP.1 h with rfl | h
  ·omega
  have:=ih h;omega
set_option maxRecDepth 100000 in
theorem xE {H:Type} {enc:TypeId × Value -> H} {W:World} {fuel:Nat} {cs:List Value} {x:DataW H × List MemPlace} {a b:Option Addr} {n m c1 c2:Nat} (h0:cs[0]? = some (.slice a n c1)) (h1:cs[1]? = some (.slice b m c2))
  (h:DataW.trod enc Tryz.prog W 0 (fun _=>true) true fuel 63 cs=some x):n <= Rows.uptoBulk x.1/\m <= Rows.uptoBulk x.1:=by
 obtain ⟨xs,k,_,hd,hl,hlen,hf⟩:=DataW.trod_struct Tryz.underlying63 h
 have c6:Tryz.prog.cellsOf 63=6:=by kernel_rfl
 rw [c6] at hl
 match xs,hlen with
 | [x0,x1,x2],_ =>
  match cs,hl with
  | [u0,u1,u2,u3,u4,u5],_ =>
   simp at h0 h1
   subst h0
   subst h1
   have k0:=hf 0 _ rfl
   have k1:=hf 1 _ rfl
   have e0:Tryz.prog.cellsOf 58=1:=by kernel_rfl
   have e1:Tryz.prog.cellsOf 59=1:=by kernel_rfl
   have q0:=lN (x:=x0) (a:=a) (n:=n) (c:=c1) Tryz.underlying58 (by simpa [e0] using k0)
   have q1:=lN (x:=x1) (a:=b) (n:=m) (c:=c2) Tryz.underlying59 (by simpa [e1] using k1)
   subst hd
   simp only [Rows.uptoBulk,Rows.uptoBulkAll,cT,eC]
   omega
set_option maxRecDepth 100000 in
theorem aAR {H:Type} {enc:TypeId × Value -> H} {W:World} {v:Value} {d:DataW H} {ps:List MemPlace} {f:FuncD} (hv:fJ W v f) (h:DataW.Trod enc Tryz.prog W 0 (fun _=>true) true 25 v d ps) :
  f.params.length <= Rows.uptoBulk d/\f.blocks.length <= Rows.uptoBulk d /\ ∀ y ∈ f.blocks,y.phis.length <= Rows.uptoBulk d/\y.code.length <= Rows.uptoBulk d:=by
 obtain ⟨fuel,hx⟩:=h
 obtain ⟨ap,cp,ab,cb,rfl,hp, -, -,hB⟩:=hv.form
 obtain ⟨xs,n,_,hd,hl,hlen,hf⟩:=DataW.trod_struct Tryz.underlying25 hx
 match xs,hlen with
 | [x0,x1,x2,x3],_ =>
  have k0:=hf 0 _ rfl
  have k3:=hf 3 _ rfl
  have c1:Tryz.prog.cellsOf 22=1:=by kernel_rfl
  have c2:Tryz.prog.cellsOf 23=1:=by kernel_rfl
  have c6:Tryz.prog.cellsOf 63=6:=by kernel_rfl
  have q0:=lN (x:=x0) (a:=ap) (n:=f.params.length) (c:=cp) Tryz.underlying22 (by simpa [Value.cells,c1] using k0)
  have k3' : DataW.trod enc Tryz.prog W 0 (fun _=>true) true n 23 [.slice ab f.blocks.length cb]=some x3:=by simpa [Value.cells,c2] using k3
  have q3:=lN Tryz.underlying23 k3'
  have q4:∀ y ∈ f.blocks,y.phis.length <= Rows.uptoBulk x3.1/\y.code.length <= Rows.uptoBulk x3.1:=by
   intro y hy
   obtain ⟨j,hj,hyj⟩:=dM hy
   have hy' : f.blocks[j]? = some y:=by rw [aC hj,hyj]
   obtain ⟨a2,cap2,b,off,he2, -, -, -,hA,hX⟩:=eU hB
   injection he2 with e1 e2 e3
   obtain ⟨ha, -⟩:=hA (by omega)
   obtain ⟨api,aii,ati,cpi,cii,cti,hC⟩:=hX j y hy'
   rcases Go.Deep.open_slice Tryz.underlying23 k3' with ⟨he,_⟩ | ⟨a',len,cap,m,n',D,Pl,he,_,hl,hm,hmm,hx3,hel⟩
   ·injection he with he _
    injection he with _ h2 _
    omega
   injection he with he _
   injection he with h1 h2 h3
   simp only [if_true] at hmm
   subst hmm
   rw [c6] at hel
   obtain ⟨cs',g1,g2⟩:=hel j (by omega)
   obtain ⟨_,g3,g4⟩:=World.cells?_some g1
   have ea:a' = ⟨b,off,none⟩:=by
    have h9:some a' = some (⟨b,off,none⟩ : Addr):=by rw [<-h1,e1,ha]
    injection h9
   subst ea
   have z0:=g4 0 (by omega)
   have z1:=g4 1 (by omega)
   simp only [pJ,eK] at z0 z1
   rw [hC.c0] at z0
   rw [hC.c1] at z1
   have q:=xE z0.symm z1.symm g2
   have q2:=aCL (d:=D j) (l:=(List.range len).map D) (aX.2 ⟨j,by simp;omega,rfl⟩)
   rw [hx3]
   simp only [Rows.uptoBulk]
   simp only at q
   omega
  injection hd with hd _
  rw [hd]
  simp only [Rows.uptoBulk,Rows.uptoBulkAll,cT,eC]
  exact ⟨by omega,by omega,fun y hy=>by have:=q4 y hy;omega⟩
theorem aCM {α β : Type} (g : α -> List β) (n:Nat) (l:List α) (h:∀ x ∈ l,(g x).length <= n):(l.flatMap g).length <= l.length * n:=by
 induction l with
 | nil=>simp
 | cons x l ih =>
  rw [bW,aI,aZ,dY,dZ]
  have h1:=h x (by simp)
  have h2:=ih (fun y hy=>h y (by simp [hy]))
  omega
theorem aAS {f:FuncD} {K:Nat} (h:f.params.length <= K/\f.blocks.length <= K /\ ∀ y ∈ f.blocks,y.phis.length <= K/\y.code.length <= K) (hK:K <= 1048576):(eQ f).length <= 4398046511103:=by
 obtain ⟨h1,h2,h3⟩:=h
 have k1:=aCM gL 2097152 f.blocks (fun y hy=>by
  have h4:=h3 y hy
  have h5:=List.length_filter_le (fun x:InstrD=>(shp0 x.op).result != 0) y.code
  unfold gL
  rw [aI,bE,bE]
  omega)
 have k2:f.blocks.length * 2097152 <= 1048576 * 2097152:=dA _ (by omega)
 unfold eQ lW
 rw [aI]
 have k3:(parT f.params).length=f.params.length:=by simp [parT]
 omega
theorem xF {H:Type} {a:DataW H} {l:List (DataW H)} (hk:Rows.uptoSmall H (a :: l)=true):Rows.uptoBulk a <= 1048576:=by
 have h:Rows.uptoBulkAll (a :: l) <= 1048576:=of_decide_eq_true hk
 simp only [Rows.uptoBulkAll] at h
 omega
end Go.Proofs.YtagabiidbbhhmaaGreat
