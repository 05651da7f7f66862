/- Part 7. -/
import Derived.Test.YtgmhnepmkaonaaaGreatPE6
import Derived.Shelf.Abstract
namespace Go.Proofs.YtgmhnepmkaonaaaGreat
set_option maxHeartbeats 6400000
set_option linter.all false
open Go.RowKit
def Idle (n:Nat) (s s' : RunS):Prop:=s'.visits=s.visits/\s.steps <= s'.steps/\s'.steps <= s.steps+n
theorem Idle.refl (s:RunS):Idle 0 s s:=⟨rfl,aB _,aB _⟩
theorem Idle.trans {n m:Nat} {a b c:RunS} (h:Idle n a b) (k:Idle m b c):Idle (n+m) a c:=⟨k.1.trans h.1,aP h.2.1 k.2.1,by have:=h.2.2;have:=k.2.2;omega⟩
theorem Idle.more {n m:Nat} {a b:RunS} (h:Idle n a b) (hm:n <= m):Idle m a b:=⟨h.1,h.2.1,by have:=h.2.2;omega⟩
theorem wT (op:Int) (s:RunS):Idle 0 s (fW op s):=by
 unfold fW
 split
 ·exact ⟨rfl,aB _,aB _⟩
 exact Idle.refl s
theorem oX (x:InstrD) (s:RunS):Idle 0 s (fE x s).st:=by
 have hl:=wT x.op s
 unfold fE
 split
 ·exact Idle.refl s
 split
 ·exact Idle.refl s
 split
 ·rcases jN x.op x.n ((x.args.map s.vals).getD 0 0) s with h | h
  ·rw [h];exact hl
  rw [h];exact hl
 split
 ·rcases jN x.op x.n ((x.args.map s.vals).getD 0 0) s with h | h
  ·rw [h];exact hl
  rw [h];exact hl
 split
 ·split
  ·exact Idle.refl s
  exact ⟨rfl,aB _,aB _⟩
 split
 ·exact Idle.refl s
 split
 ·exact ⟨rfl,aB _,aB _⟩
 split
 ·exact Idle.refl s
 exact Idle.refl s
theorem qA (fuel:Nat) (s:RunS):Idle 1 s (gK fuel s).st:=by
 unfold gK
 split
 ·exact (Idle.refl s).more (by omega)
 exact ⟨rfl,Nat.le_succ _,aB _⟩
theorem lJ {α β : Type} {n m:Nat} {r:Res α} {k : α -> RunS -> Res β} {s:RunS} (h:Idle n s r.st) (hk:∀ x s1,Idle m s1 (k x s1).st):Idle (n+m) s (r.bind k).st:=by
 cases r with
 | go x s1=>exact h.trans (hk x s1)
 | over o s1=>exact h.more (by omega)
theorem sE (x:InstrD) (v:Int) (s:RunS):Idle 0 s (putS x v s):=by
 unfold putS
 split
 ·exact ⟨rfl,aB _,aB _⟩
 exact Idle.refl s
theorem aAP (fuel:Nat) (x:InstrD) (s:RunS):Idle 1 s (oneS fuel x s).st:=by
 unfold oneS
 exact lJ (m:=0) (qA fuel s) fun _ s1=>lJ (n:=0) (m:=0) (oX x s1) fun v s2=>sE x v s2
theorem qB (fuel:Nat):∀ (xs:List InstrD) (s:RunS),Idle xs.length s (gW fuel xs s).st
 | [],s=>Idle.refl s
 | x :: xs,s=>(lJ (aAP fuel x s) fun _ s1=>qB fuel xs s1).more (by simp;omega)
theorem sF (t:TermD) (s:RunS):Idle 0 s (endR t s).st:=by
 unfold endR
 split
 ·exact Idle.refl s
 split
 ·exact Idle.refl s
 split
 ·exact Idle.refl s
 exact Idle.refl s
theorem lX:∀ (pv:List (PhiD × Int)) (s:RunS),Idle 0 s (kZ s pv)
 | [],s=>Idle.refl s
 | q :: pv,s=>(Idle.trans (n:=0) (m:=0) (⟨rfl,aB _,aB _⟩ : Idle 0 s (setV s q.1.id q.2)) (lX pv (setV s q.1.id q.2)))
theorem sG (f:FuncD) (fuel:Nat) (src:Int) (at_:Nat) (s:RunS) :
  (fY f fuel src at_ s).st.visits=s.visits.modify at_ (· + 1)/\s.steps <= (fY f fuel src at_ s).st.steps/\(fY f fuel src at_ s).st.steps <= s.steps+((f.blocks.getD at_ default).code.length+1):=by
 have h0:Idle 0 (f6 at_ s) (kO (f.blocks.getD at_ default) src (f6 at_ s)):=lX _ _
 have h1:Idle (0+((f.blocks.getD at_ default).code.length+(1+0))) (f6 at_ s) (fY f fuel src at_ s).st:=by
  unfold fY
  exact h0.trans (lJ (qB fuel _ _) fun _ s1=>lJ (qA fuel s1) fun _ s2=>sF _ s2)
 exact ⟨h1.1,h1.2.1,by have:=h1.2.2;have e:(f6 at_ s).steps=s.steps:=rfl;omega⟩
def vis (s:RunS) (b:Nat):Nat:=s.visits.getD b 0
theorem sH {w:World} {bc bm:Nat} {vp:Value} {ab:Option Addr} {nb cb:Nat} {ar ce:Int} (hb:Box w bc (chk vp (.slice ab nb cb) ar ce bm)) (b:Int) (r:Bool) (hr:numB nb b=r) :
  Calls Tryz.prog 187 #[.pointer (some ⟨bc,0,none⟩),.int .i64 b] w fun e w'=>e = .returned (.bool r)/\w=w' :=
 (aDJ hb b).mono fun e w' ⟨he,hw⟩=>⟨by rw [he, <-hr];rfl,hw.symm⟩
def iQ (r:Option (List (Int × Int))) (bm:Nat) (w:World) (e:Ending) (w' : World):Prop:=e = .returned (.bool r.isSome)/\(∀ T,r=some T -> IMap w' bm (encT T))/\Turn [bm] w w'
theorem iQ.no {r:Option (List (Int × Int))} {bm:Nat} {w w' : World} (hr:r=none) (ht:Turn [bm] w w'):iQ r bm w (.returned (.bool false)) w':=by subst hr;exact ⟨rfl,⟨fun T h=>(by cases h),ht⟩⟩
theorem iQ.yes {r:Option (List (Int × Int))} {T:List (Int × Int)} {bm:Nat} {w w' : World} (hr:r=some T) (hm:IMap w' bm (encT T)) (ht:Turn [bm] w w'):iQ r bm w (.returned (.bool true)) w':=by
 subst hr;exact ⟨rfl,⟨fun T h=>(by cases h;exact hm),ht⟩⟩
theorem u9 {w:World} {bc bm:Nat} {ap:Option Addr} {np cp:Nat} {vb:Value} {ar ce:Int} {T:List (Int × Int)} (hb:Box w bc (chk (.slice ap np cp) vb ar ce bm)) (hm:IMap w bm (encT T)) (id t:Int) :
  Calls Tryz.prog 188 #[.pointer (some ⟨bc,0,none⟩),.int .i64 id,.int .i64 t] w (iQ (jI np T id t) bm w) :=
 (aBQ hb hm id t).mono fun e w' ⟨he,hi,ht⟩=>by
  rw [aCA np T id t] at he hi
  refine ⟨he,fun T' h => ?_,ht⟩
  rw [h] at hi
  unfold jI at h
  split at h
  ·rename_i h2
   cases h
   have h3:tyOf T id=none:=by
    simp only [aI,Bool.not_eq_true',Option.isSome_eq_false_iff,Option.isNone_iff_eq_none] at h2
    exact h2.1.1
   simpa [vR h3] using hi
  cases h
section
variable {P:Program} {w:World} {ops:Array Oper} {rest:List Oper} {o:Oper} {a:Act} {Q:Exit -> Act -> World -> Prop}
theorem jT (hg:o.guard=none) (m:Operand) (t:TypeId) (hop:o.op=Op.call { callee:=Callee.builtin Builtin.len,args:=#[m],argTypes:=#[t] }) {k e:TypeId} (ht:P.underlying t=some (.map k e))
  {b:Nat} {mm:List (Int × Value)} (hm:a.eval m = .map (some b)) (h:IMap w b mm) (hK:wpList P ops Q rest (a.put o.dst (.int .i64 mm.length)) w):wpList P ops Q (o :: rest) a w:=by
 refine wpList_plain hg fun K' hK' => ?_
 unfold Oper.wp
 simp [execOp,hop,resolve,invoke,builtin,hm,h.len ht o.type,Result.andThen]
 exact hK' _ _ hK
end
def Asks (k:FuncId) (cap:Array Value) (w:World) (xs:List Int) (p:Int -> Bool):Prop := ∀ W x,Below w.heap.size w W -> x ∈ xs -> Calls Tryz.prog k (#[.int .i64 x] ++ cap) W fun e W'=>e = .returned (.bool (p x))/\Below W.heap.size W W'
def IdxR (xs:List Int) (p:Int -> Bool) (w:World) (e:Ending) (w' : World):Prop := ∃ r:Int,e = .returned (.int .i64 r)/\decide (0 <= r)=xs.any p/\Below w.heap.size w w'
theorem aAQ {w:World} {v:Value} {xs:List Int} (hs:Ints w v xs) (k:FuncId) (cap:Array Value) (p:Int -> Bool) (eg:Enters Tryz.prog k) (hf:Asks k cap w xs p) :
  Calls Tryz.prog 113 #[v,.func (.func k) #[] cap] w (IdxR xs p w):=by
 obtain ⟨a,c,b,o,rfl,hc,hm,ha,hx⟩:=hs.parts
 have HA:=h! ha
 have HX:=h! hx
 have HF:=h! hf
 clear ha hx hf hs
 obtain ⟨n,hnn⟩ : ∃ n,n=xs.length:=⟨_,rfl⟩
 rw [<-hnn] at hc HA HX ⊢
 have HN:=h! hnn
 clear hnn
 go_enter Tryz.func113,Tryz.ntmps113
 go_wp2
 go_loopw [8] (fun i wr => ∃ j:Nat,j <= n/\i = .int .i64 j/\(xs.take j).any p=false/\Below w.heap.size w wr) (fun i _=>n - (intOf i).toNat)
 case atStart=>exact ⟨0,aO _,rfl,by simp,Below.refl _ _⟩
 case round =>
  obtain ⟨j,hj,rfl,hp,hW⟩:=hrel
  have HP:=h! hp
  have HW:=h! hW
  clear hW hp
  by_cases hlt:j < n
  ·have hne:0 < n:=by omega
   obtain ⟨rfl,hbw⟩:=HA.out hne
   have hjx:xs[j]? = some (xs.getD j 0):=by rw [aH,aC (by have:=HN.out;omega)];rfl
   have hmem:=aG hjx
   have h0:=(HW.out.cell hbw).trans (HX.out j hlt)
   generalize xs.getD j 0=y at *
   have HF1:=h! (HF.out wr y HW.out hmem)
   have HSN:=h! (show (xs.take (j+1)).any p=((xs.take j).any p || p y) by rw [cA,hjx];simp)
   have HM:=h! hmem
   clear hjx hmem
   cases hpy:p y
   ·have HPY:=h! hpy
    rw [hpy] at HF1
    clear hpy
    have eg1:∀ (args:Array Value) (w:World),(callFunc k args).run Tryz.prog w = .ok (.enter k args) w:=eg
    go_wp2_with (go_at_fn k;refine HF1.out.mono ?_;rintro e w2 ⟨rfl,hb2⟩;have HB:=h! hb2;clear hb2)
    go_roundw
    case rel=>exact ⟨j+1,hlt,by go_num,by rw [HSN.out,HP.out,HPY.out];rfl,HW.out.trans (HB.out.mono HW.out.size)⟩
    simp [intOf];omega
   have HPY:=h! hpy
   rw [hpy] at HF1
   clear hpy
   have eg1:∀ (args:Array Value) (w:World),(callFunc k args).run Tryz.prog w = .ok (.enter k args) w:=eg
   go_wp2_with (go_at_fn k;refine HF1.out.mono ?_;rintro e w2 ⟨rfl,hb2⟩;have HB:=h! hb2;clear hb2)
   go_ret
   exact ⟨_,rfl,by rw [show xs.any p=true from eO.2 ⟨_,HM.out,HPY.out⟩];simp,HW.out.trans (HB.out.mono HW.out.size)⟩
  obtain rfl:j=n:=by omega
  have HT:Hid (xs.any p=false):=h! (by have:=HP.out;rwa [aJ (by have:=HN.out;omega)] at this)
  go_wp2
  go_ret
  exact ⟨_,rfl,by rw [HT.out];rfl,HW.out⟩
theorem j6 {w:World} {v:Value} {xs:List Int} (hs:Ints w v xs) (k:FuncId) (cap:Array Value) (p:Int -> Bool) (eg:Enters Tryz.prog k) (hf:Asks k cap w xs p) :
  Calls Tryz.prog 74 #[v,.func (.func k) #[] cap] w fun e w'=>e = .returned (.bool (xs.any p))/\Below w.heap.size w w':=by
 have HS:=h! hs
 have HF:=h! hf
 clear hs hf
 go_enter Tryz.func74,Tryz.ntmps74
 go_wp2_with fail
 refine (aAQ HS.out k cap p eg HF.out).mono ?_
 rintro e w1 ⟨r,rfl,hr,hb⟩
 have HR:=h! hr
 have HB:=h! hb
 clear hr hb
 go_wp2
 go_ret
 rw [HR.out]
 exact ⟨rfl,HB.out⟩
structure SeenR (nb:Nat) (l:List Int) (S:List (Int × Value)):Prop where
 all:l.all (numB nb)=true
 mem:∀ y,y ∈ S.map (·.1) ↔ y ∈ l
 le:S.length <= l.length
 eq:S.length=l.length ↔ l.Nodup
theorem SeenR.nil {nb:Nat}:SeenR nb [] []:=⟨rfl,fun _=>Iff.rfl,aB _,by simp⟩
theorem SeenR.put {nb:Nat} {l:List Int} {S:List (Int × Value)} (h:SeenR nb l S) {b:Int} (hb:numB nb b=true) (v:Value):SeenR nb (l ++ [b]) (mput S b v):=by
 have hk:=sR (m:=S) (k:=b) (v:=v)
 have hl:(mput S b v).length=if (mget S b).isSome then S.length else S.length+1:=by
  have:=congrArg List.length hk
  rw [bI] at this
  rw [this];split <;> simp
 have hn:=h.eq
 have hle:=h.le
 have hnd:(l ++ [b]).Nodup ↔ l.Nodup/\b ∉ l:=by
  rw [cI]
  constructor
  ·rintro ⟨h1,_,h3⟩;exact ⟨h1,fun hm=>h3 b hm b (by simp) rfl⟩
  rintro ⟨h1,h2⟩;exact ⟨h1,by simp,fun x hx y hy e=>by simp at hy;subst hy;subst e;exact h2 hx⟩
 cases hg:mget S b with
 | none =>
  have hno:b ∉ l:=fun hm=>pB.1 hg ((h.mem b).2 hm)
  rw [hg] at hk hl
  simp only [Option.isSome_none,bE,if_false] at hk hl
  refine ⟨by rw [dH,h.all];simp [hb],fun y=>by rw [hk];simp [h.mem y],by rw [hl];simp;omega, ?_⟩
  rw [hl,hnd,aM, <-hn];simp;intro _;exact hno
 | some u =>
  have hm1:b ∈ S.map (·.1):=aZ.2 ⟨_,aBP hg,rfl⟩
  have hyes:b ∈ l:=(h.mem b).1 hm1
  rw [hg] at hk hl
  simp only [Option.isSome_some,if_true] at hk hl
  refine ⟨by rw [dH,h.all];simp [hb],fun y=>by rw [hk,h.mem y];simp;intro e;subst e;exact hyes,by rw [hl];simp;omega, ?_⟩
  rw [hl,hnd,aM];simp [hyes];omega
theorem aFQ {np nb:Nat} {T:List (Int × Int)} {x:PhiD} (h:iH nb x=false):phiM np nb T x=none:=by unfold phiM;rw [h];rfl
theorem aAR {w : World} {bc : Nat} {id typ : Int} {af av : Option Addr} {n m cf cv : Nat} (h : ((typ == 1 || typ == 2) && (n == m)) = false) :
    Calls Tryz.prog 166 #[.pointer (some ⟨bc, 0, none⟩), .agg #[.int .i64 id, .int .i64 typ, .slice af n cf, .slice av m cv]] w fun e w' => e = .returned (.bool false) ∧ Below w.heap.size w w' := by
  cases ht1 : (typ == 1) <;> cases ht2 : (typ == 2) <;> cases hl : ((n : Int) == (m : Int))
  all_goals
    first
      | (have hnm : n = m := by simp at hl; omega
         subst hnm
         rw [ht1, ht2] at h
         simp at h; done)
      | (clear h
         go_enter Tryz.func166, Tryz.ntmps166
         go_upto_region 1 with (fail)
         have hA_ := (Below.refl w.heap.size w).alloc (aB _) (.cells #[.int .i64 id, .int .i64 typ, .slice af n cf, .slice av m cv] 83)
         have HW := h! hA_
         clear hA_
         have B3 := h! (Box.new w #[.int .i64 id, .int .i64 typ, .slice af n cf, .slice av m cv] 83)
         generalize w.alloc (.cells #[.int .i64 id, .int .i64 typ, .slice af n cf, .slice av m cv] 83) = wv at *
         obtain ⟨lB3, cB3, fB3⟩ := B3.out
         go_wp2
         all_goals (go_ret; exact ⟨rfl, HW.out⟩))
theorem aFR {w:World} {bc bm:Nat} {ap ab:Option Addr} {np cp nb cb:Nat} {ar ce:Int} {T:List (Int × Int)} {id:Int} {src:List Int} {n:Nat} {af av:Option Addr} {cf cv:Nat}
  (hb:Box w bc (chk (.slice ap np cp) (.slice ab nb cb) ar ce bm)) (hm:IMap w bm (encT T)) (hn:n=src.length) (hs:Ints w (.slice af n cf) src) :
  Calls Tryz.prog 166 #[.pointer (some ⟨bc,0,none⟩),.agg #[.int .i64 id,.int .i64 1,.slice af n cf,.slice av n cv]] w
   (iQ (if src.all (numB nb) && decide src.Nodup then jI np T id 1 else none) bm w):=by
 have HBC:=h! hb
 have HM:=h! hm
 have HLB:=h! hb.lt
 have HLM:=h! hm.lt
 obtain ⟨a,cap,b,o,hav,hc,hcm,ha,hx⟩:=hs.parts
 rw [<-hn] at hav hc ha hx
 cases hav
 have HA:=h! ha
 have HX:=h! hx
 have HN:=h! hn
 have HS:=h! hs
 obtain ⟨r,hr⟩ : ∃ r,r=(if src.all (numB nb) && decide src.Nodup then jI np T id 1 else none):=⟨_,rfl⟩
 rw [<-hr]
 have HR:=h! hr
 clear hb hm hs ha hx hn hr
 go_enter Tryz.func166,Tryz.ntmps166
 go_upto_region 1 with (fail)
 have hA_:=(Below.refl w.heap.size w).alloc (aB _) (.cells #[.int .i64 id,.int .i64 1,.slice af n cf,.slice av n cv] 83)
 have HW:=h! hA_
 clear hA_
 have B3:=h! (Box.new w #[.int .i64 id,.int .i64 1,.slice af n cf,.slice av n cv] 83)
 generalize w.alloc (.cells #[.int .i64 id,.int .i64 1,.slice af n cf,.slice av n cv] 83)=wv at *
 obtain ⟨lB3,cB3,fB3⟩:=B3.out
 have hmm:=@run_makeMap Tryz.prog
 go_upto_region 4 with (fail)
 clear hmm
 have HI0:=h! (IMap.new wv)
 clear lB3 cB3 fB3
 have HL3:=h! B3.out.lt
 replace B3:=h! (B3.out.alloc (.map #[] 0))
 have HLV:=h! HW.out.size
 replace HW:=h! (HW.out.alloc HW.out.size (.map #[] 0))
 generalize wv.alloc _=wm at *
 obtain ⟨lB3,cB3,fB3⟩:=B3.out
 go_wp2_with fail
 go_loopw [29] (fun i wr => ∃ (j:Nat) (S:List (Int × Value)),j <= n/\i = .int .i64 j/\SeenR nb (src.take j) S/\IMap wr wv.heap.size S/\Below w.heap.size w wr/\Box wr w.heap.size #[.int .i64 id,.int .i64 1,.slice af n cf,.slice av n cv]) (fun i _=>n - (intOf i).toNat)
 case atStart=>exact ⟨0,[],aO _,rfl,SeenR.nil,HI0.out,HW.out,B3.out⟩
 case round =>
  obtain ⟨j,S,hj,rfl,hS,hI,hW,hB3⟩:=hrel
  clear lB3 cB3 fB3
  have HSE:=h! hS
  have HI:=h! hI
  replace HW:=h! hW
  replace B3:=h! hB3
  have HBR:=h! (HBC.out.later hW)
  have HMR:=h! (HM.out.later hW)
  have HLI:=h! hI.lt
  clear hS hI hW hB3 HI0
  by_cases hlt:j < n
  ·have hne:0 < n:=by omega
   obtain ⟨rfl,hbw⟩:=HA.out hne
   have hjx:src[j]? = some (src.getD j 0):=by rw [aH,aC (by have:=HN.out;omega)];rfl
   have h0:=(HW.out.cell hbw).trans (HX.out j hlt)
   have HTS:=h! (show src.take (j+1)=src.take j ++ [src.getD j 0] by rw [cA,hjx];rfl)
   have HMEM:=h! (aG hjx)
   clear hjx
   generalize src.getD j 0=y at *
   cases hy:numB nb y
   ·have HY:=h! hy
    clear hy
    go_wp2_with (go_at_call 187;refine (sH HBR.out y false HY.out).mono ?_;rintro e w1 ⟨rfl,rfl⟩)
    go_ret
    refine iQ.no ?_ (Turn.of_below HW.out _)
    rw [HR.out,show src.all (numB nb)=false by rw [cC];exact ⟨y,HMEM.out,by rw [HY.out];simp⟩]
    rfl
   have HY:=h! hy
   clear hy
   go_wp2_with (first
    | (go_at_call 187;refine (sH HBR.out y true HY.out).mono ?_;rintro e w1 ⟨rfl,rfl⟩)
    | (at_mapUpdate;refine fL (q:=.i64) (b:=wv.heap.size) (mm:=S) (y:=y) rfl _ _ _ _ (.inl rfl) Tryz.underlying247 Tryz.underlying3 rfl HI.out rfl ?_;intro w2 hm2 hz2 ht2;have HP:=h! hm2;have HT:=h! ht2;clear hm2 hz2 ht2))
   have hbel:Below w.heap.size wr w2:=HT.out.below HW.out.size (fun x hx=>by simp at hx;subst hx;exact HLV.out)
   have hne3:w.heap.size ∉ [wv.heap.size]:=by simp;have:=HL3.out;omega
   go_roundw
   case rel=>exact ⟨j+1,_,hlt,by go_num,by rw [HTS.out];exact HSE.out.put HY.out _,HP.out,HW.out.trans hbel,B3.out.turn HT.out hne3⟩
   simp [intOf];omega
  obtain rfl:j=n:=by omega
  have HT0:src.take j=src:=aJ (by have:=HN.out;omega)
  rw [HT0] at HSE
  have HSA:=h! HSE.out.all
  have HEQ:Hid (decide src.Nodup=decide ((S.length:Int)=j)):=h! (by have:=HSE.out.eq;rw [<-HN.out] at this;rw [bZ];simp only [decide_eq_true_eq];rw [<-this];omega)
  have HR2:Hid (r=if decide ((S.length:Int)=j) then jI np T id 1 else none):=h! (by rw [HR.out,HSA.out,HEQ.out];rfl)
  clear HT0
  have lS:S.length <= 17592186044416:=by
   have:=HSE.out.le;have:=HS.out.1.big;omega
  cases hq:((S.length:Int) == (j:Int))
  ·
   obtain ⟨lB3,cB3,fB3⟩:=B3.out
   go_wp2_with (at_len;have _t:=HI;refine jT rfl _ 247 rfl Tryz.underlying247 (b:=wv.heap.size) (mm:=S) rfl HI.out ?_;clear HI)
   go_ret
   exact iQ.no (by rw [HR2.out,if_neg];simpa using hq) (Turn.of_below HW.out _)
  have HQ:=h! hq
  obtain ⟨lB3,cB3,fB3⟩:=B3.out
  go_wp2_with (at_len;have _t:=HI;refine jT rfl _ 247 rfl Tryz.underlying247 (b:=wv.heap.size) (mm:=S) rfl HI.out ?_;clear HI)
  refine (u9 HBR.out HMR.out id 1).mono ?_
  rintro e w3 ⟨rfl,h3,t3⟩
  have H3:=h! h3
  have T3:=h! t3
  clear h3 t3
  go_wp2
  go_ret
  have e:r=jI np T id 1:=by rw [HR2.out,if_pos];simpa using HQ.out
  rw [e]
  exact ⟨rfl,H3.out,(Turn.of_below HW.out _).trans (by first | exact T3.out)⟩
theorem aFS {w:World} {bc bm:Nat} {ap ab:Option Addr} {np cp nb cb:Nat} {ar ce:Int} {T:List (Int × Int)} {id:Int} {src:List Int} {n:Nat} {af av:Option Addr} {cf cv:Nat}
  (hb:Box w bc (chk (.slice ap np cp) (.slice ab nb cb) ar ce bm)) (hm:IMap w bm (encT T)) (hn:n=src.length) (hs:Ints w (.slice af n cf) src) :
  Calls Tryz.prog 166 #[.pointer (some ⟨bc,0,none⟩),.agg #[.int .i64 id,.int .i64 2,.slice af n cf,.slice av n cv]] w
   (iQ (if src.all (numB nb) && decide src.Nodup then jI np T id 2 else none) bm w):=by
 have HBC:=h! hb
 have HM:=h! hm
 have HLB:=h! hb.lt
 have HLM:=h! hm.lt
 obtain ⟨a,cap,b,o,hav,hc,hcm,ha,hx⟩:=hs.parts
 rw [<-hn] at hav hc ha hx
 cases hav
 have HA:=h! ha
 have HX:=h! hx
 have HN:=h! hn
 have HS:=h! hs
 obtain ⟨r,hr⟩ : ∃ r,r=(if src.all (numB nb) && decide src.Nodup then jI np T id 2 else none):=⟨_,rfl⟩
 rw [<-hr]
 have HR:=h! hr
 clear hb hm hs ha hx hn hr
 go_enter Tryz.func166,Tryz.ntmps166
 go_upto_region 1 with (fail)
 have hA_:=(Below.refl w.heap.size w).alloc (aB _) (.cells #[.int .i64 id,.int .i64 2,.slice af n cf,.slice av n cv] 83)
 have HW:=h! hA_
 clear hA_
 have B3:=h! (Box.new w #[.int .i64 id,.int .i64 2,.slice af n cf,.slice av n cv] 83)
 generalize w.alloc (.cells #[.int .i64 id,.int .i64 2,.slice af n cf,.slice av n cv] 83)=wv at *
 obtain ⟨lB3,cB3,fB3⟩:=B3.out
 have hmm:=@run_makeMap Tryz.prog
 go_upto_region 4 with (fail)
 clear hmm
 have HI0:=h! (IMap.new wv)
 clear lB3 cB3 fB3
 have HL3:=h! B3.out.lt
 replace B3:=h! (B3.out.alloc (.map #[] 0))
 have HLV:=h! HW.out.size
 replace HW:=h! (HW.out.alloc HW.out.size (.map #[] 0))
 generalize wv.alloc _=wm at *
 obtain ⟨lB3,cB3,fB3⟩:=B3.out
 go_wp2_with fail
 go_loopw [29] (fun i wr => ∃ (j:Nat) (S:List (Int × Value)),j <= n/\i = .int .i64 j/\SeenR nb (src.take j) S/\IMap wr wv.heap.size S/\Below w.heap.size w wr/\Box wr w.heap.size #[.int .i64 id,.int .i64 2,.slice af n cf,.slice av n cv]) (fun i _=>n - (intOf i).toNat)
 case atStart=>exact ⟨0,[],aO _,rfl,SeenR.nil,HI0.out,HW.out,B3.out⟩
 case round =>
  obtain ⟨j,S,hj,rfl,hS,hI,hW,hB3⟩:=hrel
  clear lB3 cB3 fB3
  have HSE:=h! hS
  have HI:=h! hI
  replace HW:=h! hW
  replace B3:=h! hB3
  have HBR:=h! (HBC.out.later hW)
  have HMR:=h! (HM.out.later hW)
  have HLI:=h! hI.lt
  clear hS hI hW hB3 HI0
  by_cases hlt:j < n
  ·have hne:0 < n:=by omega
   obtain ⟨rfl,hbw⟩:=HA.out hne
   have hjx:src[j]? = some (src.getD j 0):=by rw [aH,aC (by have:=HN.out;omega)];rfl
   have h0:=(HW.out.cell hbw).trans (HX.out j hlt)
   have HTS:=h! (show src.take (j+1)=src.take j ++ [src.getD j 0] by rw [cA,hjx];rfl)
   have HMEM:=h! (aG hjx)
   clear hjx
   generalize src.getD j 0=y at *
   cases hy:numB nb y
   ·have HY:=h! hy
    clear hy
    go_wp2_with (go_at_call 187;refine (sH HBR.out y false HY.out).mono ?_;rintro e w1 ⟨rfl,rfl⟩)
    go_ret
    refine iQ.no ?_ (Turn.of_below HW.out _)
    rw [HR.out,show src.all (numB nb)=false by rw [cC];exact ⟨y,HMEM.out,by rw [HY.out];simp⟩]
    rfl
   have HY:=h! hy
   clear hy
   go_wp2_with (first
    | (go_at_call 187;refine (sH HBR.out y true HY.out).mono ?_;rintro e w1 ⟨rfl,rfl⟩)
    | (at_mapUpdate;refine fL (q:=.i64) (b:=wv.heap.size) (mm:=S) (y:=y) rfl _ _ _ _ (.inl rfl) Tryz.underlying247 Tryz.underlying3 rfl HI.out rfl ?_;intro w2 hm2 hz2 ht2;have HP:=h! hm2;have HT:=h! ht2;clear hm2 hz2 ht2))
   have hbel:Below w.heap.size wr w2:=HT.out.below HW.out.size (fun x hx=>by simp at hx;subst hx;exact HLV.out)
   have hne3:w.heap.size ∉ [wv.heap.size]:=by simp;have:=HL3.out;omega
   go_roundw
   case rel=>exact ⟨j+1,_,hlt,by go_num,by rw [HTS.out];exact HSE.out.put HY.out _,HP.out,HW.out.trans hbel,B3.out.turn HT.out hne3⟩
   simp [intOf];omega
  obtain rfl:j=n:=by omega
  have HT0:src.take j=src:=aJ (by have:=HN.out;omega)
  rw [HT0] at HSE
  have HSA:=h! HSE.out.all
  have HEQ:Hid (decide src.Nodup=decide ((S.length:Int)=j)):=h! (by have:=HSE.out.eq;rw [<-HN.out] at this;rw [bZ];simp only [decide_eq_true_eq];rw [<-this];omega)
  have HR2:Hid (r=if decide ((S.length:Int)=j) then jI np T id 2 else none):=h! (by rw [HR.out,HSA.out,HEQ.out];rfl)
  clear HT0
  have lS:S.length <= 17592186044416:=by
   have:=HSE.out.le;have:=HS.out.1.big;omega
  cases hq:((S.length:Int) == (j:Int))
  ·
   obtain ⟨lB3,cB3,fB3⟩:=B3.out
   go_wp2_with (at_len;have _t:=HI;refine jT rfl _ 247 rfl Tryz.underlying247 (b:=wv.heap.size) (mm:=S) rfl HI.out ?_;clear HI)
   go_ret
   exact iQ.no (by rw [HR2.out,if_neg];simpa using hq) (Turn.of_below HW.out _)
  have HQ:=h! hq
  obtain ⟨lB3,cB3,fB3⟩:=B3.out
  go_wp2_with (at_len;have _t:=HI;refine jT rfl _ 247 rfl Tryz.underlying247 (b:=wv.heap.size) (mm:=S) rfl HI.out ?_;clear HI)
  refine (u9 HBR.out HMR.out id 2).mono ?_
  rintro e w3 ⟨rfl,h3,t3⟩
  have H3:=h! h3
  have T3:=h! t3
  clear h3 t3
  go_wp2
  go_ret
  have e:r=jI np T id 2:=by rw [HR2.out,if_pos];simpa using HQ.out
  rw [e]
  exact ⟨rfl,H3.out,(Turn.of_below HW.out _).trans (by first | exact T3.out)⟩
theorem aHK {w:World} {bc bm:Nat} {ap ab:Option Addr} {np cp nb cb:Nat} {ar ce:Int} {T:List (Int × Int)} {x:PhiD} {af av:Option Addr} {cf cv:Nat}
  (hb:Box w bc (chk (.slice ap np cp) (.slice ab nb cb) ar ce bm)) (hm:IMap w bm (encT T)) (hs:Ints w (.slice af x.src.length cf) x.src) :
  Calls Tryz.prog 166 #[.pointer (some ⟨bc,0,none⟩),.agg (phiA x af av cf cv)] w (iQ (phiM np nb T x) bm w):=by
 cases hg:((x.typ == 1 || x.typ == 2) && (x.src.length == x.vals.length))
 ·refine (aAR hg).mono fun e w' ⟨he,hw⟩ => ?_
  subst he
  exact iQ.no (aFQ (by unfold iH;rw [hg];rfl)) (Turn.of_below hw _)
 ·have hok:iH nb x=(x.src.all (numB nb) && decide x.src.Nodup):=by unfold iH;rw [hg];rfl
  have hM:phiM np nb T x=if x.src.all (numB nb) && decide x.src.Nodup then jI np T x.id x.typ else none:=by unfold phiM;rw [hok]
  rw [hM]
  simp only [aI,bU,beq_iff_eq] at hg
  unfold phiA
  rw [<-hg.2]
  rcases hg.1 with h | h
  ·rw [h];exact aFR hb hm rfl hs
  rw [h];exact aFS hb hm rfl hs
end Go.Proofs.YtgmhnepmkaonaaaGreat
