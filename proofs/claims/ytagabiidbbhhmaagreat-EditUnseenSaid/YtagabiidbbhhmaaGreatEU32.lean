/- Part 32. -/
import Derived.Test.YtagabiidbbhhmaaGreatEU31
namespace Go.Proofs.YtagabiidbbhhmaaGreat
set_option linter.all false
open Go.RowKit
def fU (xs:List Int) (p:PhiD):Bool:=decide (p.src.length=xs.length) && xs.all fun t=>p.src.contains t
set_option maxHeartbeats 12800000 in
set_option maxRecDepth 100000 in
theorem aDS {w:World} {pv A1 A2 A3 A4 A5 u:Value} {ps:List PhiD} {xs:List Int} (hp:eU PhiR 4 w pv ps) (hu:Ints w u xs) :
  Calls Tryz.prog 76 #[.agg #[pv,A1,A2,A3,A4,A5],u] w fun e w'=>e = .returned (.bool (ps.all (fU xs)))/\Below w.heap.size w w':=by
 obtain ⟨a1,c1,b1,o1,rfl,bm,hm1,bj,aj,hx⟩:=fH hp
 have ae:=hu.le
 obtain ⟨ua,uc,ub,uo,rfl,bi,hum,ax,an⟩:=hu.parts
 obtain ⟨pl,al⟩ : ∃ n,n=ps.length:=⟨_,rfl⟩
 obtain ⟨ul,aw⟩ : ∃ n,n=xs.length:=⟨_,rfl⟩
 rw [<-al] at bm bj aj ⊢
 rw [<-aw] at bi ax an ae ⊢
 have ba:=h! al
 have ai:=h! aw
 have bp:=h! aj
 have HX:=h! hx
 have bs:=h! ax
 have bh:=h! an
 clear hp hu al aw aj hx ax an
 go_enter Tryz.func76,Tryz.ntmps76
 go_upto_region 1 with (fail)
 have bb:=(Below.refl w.heap.size w).alloc (aC _) (.cells #[.slice a1 pl c1,A1,A2,A3,A4,A5] 63)
 have HW:=h! bb
 clear bb
 have B1:=h! (Box.new w #[.slice a1 pl c1,A1,A2,A3,A4,A5] 63)
 generalize w.alloc (.cells #[.slice a1 pl c1,A1,A2,A3,A4,A5] 63)=wv at *
 obtain ⟨ab,aa,ac⟩:=B1.out
 go_wp2_with fail
 go_loopw [5] (fun i wr => ∃ j:Nat,j <= pl/\i = .int .i64 j/\(ps.take j).all (fU xs)=true/\Below w.heap.size w wr/\Box wr w.heap.size #[.slice a1 pl c1,A1,A2,A3,A4,A5]) (fun i _=>pl - (intOf i).toNat)
 case atStart=>exact ⟨0,aH _,rfl,rfl,HW.out,B1.out⟩
 case round =>
  obtain ⟨j,hj,rfl,hs,hW,h1⟩:=hrel
  clear ab aa ac
  have HS:=h! hs
  replace HW:=h! hW
  replace B1:=h! h1
  clear hs hW h1
  generalize wr=w3 at *
  obtain ⟨ab,aa,ac⟩:=B1.out
  by_cases hlt:j < pl
  ·obtain ⟨rfl,az⟩:=bp.out (by omega)
   obtain ⟨p,ah⟩ : ∃ p,ps[j]? = some p:=⟨_,aB (by have:=ba.out;omega)⟩
   obtain ⟨af,av,cf,cv,hP⟩:=HX.out j p ah
   obtain ⟨m0,m1,m2,m3,r1,r2,r3,r4⟩:=hP.below HW.out az
   have bc:=h! (aG ah)
   have bn:=h! (eS ps j p ah)
   have bf:=h! hP.c2
   have ad:=h! hP.src
   obtain ⟨sl,ag⟩ : ∃ sl,sl=p.src.length:=⟨_,rfl⟩
   rw [<-ag] at bf ad m2
   have be:=h! ag
   have hsl16:sl <= 17592186044416:=by rw [ag];exact hP.src.le
   clear ah hP r1 r2 r3 r4 m0 m1 m3 ag
   by_cases hlen:sl=ul
   ·have hq:((sl:Int) != (ul:Int))=false:=by simp [hlen]
    have ap:Hid (p.src.length=xs.length):=h! (by rw [<-be.out, <-ai.out];exact hlen)
    clear hlen
    go_wp2_with fail
    clear m2
    go_loopw [6] (fun i wr => ∃ t:Nat,t <= ul/\i = .int .i64 t/\((xs.take t).all fun t=>p.src.contains t)=true/\Below w.heap.size w wr/\Box wr w.heap.size #[.slice (some ⟨b1,o1,none⟩) pl c1,A1,A2,A3,A4,A5]) (fun i _=>ul - (intOf i).toNat)
    case atStart=>exact ⟨0,aH _,rfl,rfl,HW.out,B1.out⟩
    obtain ⟨t,ht,rfl,hs,hW,h1⟩:=hrel
    clear ab aa ac
    have ay:=h! hs
    replace HW:=h! hW
    replace B1:=h! h1
    clear hs hW h1
    generalize wr=w5 at *
    obtain ⟨ab,aa,ac⟩:=B1.out
    by_cases hltt:t < ul
    ·obtain ⟨rfl,bo⟩:=bs.out (by omega)
     obtain ⟨y,hy⟩ : ∃ y,y=xs.getD t 0:=⟨_,rfl⟩
     have CU:=h! ((HW.out.cell (p:=⟨ub,uo+t,none⟩) bo).trans (bh.out t hltt))
     rw [<-hy] at CU
     have aq:xs[t]? = some y:=by rw [hy];exact fI xs t (by have:=ai.out;omega)
     have ao:=h! (eS xs t y aq)
     have br:=h! (aG aq)
     have bd:=World.block_lt_of_cell? w5 _ CU.out
     have CS:=h! ((HW.out.cell (p:=⟨b1,o1+j * 4+2,none⟩) az).trans bf.out)
     have bg:=World.block_lt_of_cell? w5 _ CS.out
     obtain ⟨c,hc⟩ : ∃ c,c=p.src.contains y:=⟨_,rfl⟩
     have HC:=h! hc
     have bl:Hid (∀ wg,Below w5.heap.size w5 wg -> Calls Tryz.prog 32 #[.slice af sl cf,.int .i64 y] wg fun e w'=>e = .returned (.bool c)/\Below wg.heap.size wg w'):=h! (fun wg hbg=>by
      rw [hc]
      exact (zL (x:=y) (ad.out.below (HW.out.trans (hbg.mono HW.out.size)))).mono (fun e w2 ⟨h1,h2⟩=>⟨h1,h2 ▸ Below.refl _ _⟩))
     clear hy aq hc
     go_upto_region 9 with (fail)
     refine wp_region_grow 12 (fun kz=>match kz with | 10=>.const (.bool c) | _=>.plain) (by kernel_rfl) (by kernel_rfl) ?_ (fun ν => ?_)
     ·(intro k;(try dsimp only);split <;> first | exact True.intro | (intro u w1 w2 hu hb;exact hu.below hb))
     simp only [aP,aU,aS,aX]
     iterate 10 (refine Grow.val (v := ?_) rfl rfl (fun wg hbg hdg => ?_) ?_;rotate_left;(focus ((obtain ⟨lg0,cg0,fg0⟩:=B1.out.later hbg);(have hcl:=(hbg.cell (p:=⟨ub,uo+t,none⟩) bd).trans CU.out;have bq:=(hbg.cell (p:=⟨b1,o1+j * 4+2,none⟩) bg).trans CS.out);clear hbg hdg;first | (go_simp;done) | (go_simp;with_reducible rfl)));simp only [Act.put,aA,aE,aF])
     refine Grow.call (f := ?_) (args := ?_) rfl (fun wg => ?_) (fun wg hbg hdg => ?_) ?_
     rotate_left 2
     focus (first | (go_simp;done) | (go_simp;refine And.intro ?_ ?_ <;> with_reducible rfl) | (go_simp;with_reducible rfl))
     focus exact Calls.mono (bl.out wg hbg) (fun e w2 ⟨he,hb2⟩=>⟨_,he,rfl,hb2⟩)
     simp only [Act.put,Known.val,aA,aE,aF]
     refine Grow.val (v := ?_) rfl rfl (fun wg hbg hdg => ?_) ?_
     rotate_left
     focus ((obtain ⟨lg0,cg0,fg0⟩:=B1.out.later hbg);(have hcl:=(hbg.cell (p:=⟨ub,uo+t,none⟩) bd).trans CU.out;have bq:=(hbg.cell (p:=⟨b1,o1+j * 4+2,none⟩) bg).trans CS.out);clear hbg hdg;first | (go_simp;done) | (go_simp;with_reducible rfl))
     simp only [Act.put,aA,aE,aF]
     intro wg hb hf bk
     clear bk
     clear ab aa ac
     replace B1:=h! (B1.out.later hb)
     replace HW:=h! (HW.out.trans (hb.mono HW.out.size))
     clear hb
     obtain ⟨ab,aa,ac⟩:=B1.out
     clear hf
     cases c
     ·have ak:Hid (ps.all (fU xs)=false):=h! (by
       rw [cE]
       refine ⟨p,bc.out, ?_⟩
       unfold fU
       rw [aK,not_and]
       intro _ h
       rw [aZ] at h
       have:=h y br.out
       rw [<-HC.out] at this
       cases this)
      go_wp2
      go_ret
      exact ⟨gQ ak.out.symm,HW.out⟩
     have am:Hid (((xs.take (t+1)).all fun t=>p.src.contains t)=true):=h! (by rw [ao.out,List.all_append,ay.out];simpa using HC.out.symm)
     go_wp2
     go_roundw
     case rel=>exact ⟨t+1,hltt,by go_num,am.out,HW.out,B1.out⟩
     simp [intOf];omega
    have am:Hid ((ps.take (j+1)).all (fU xs)=true):=h! (by
     rw [bn.out,dF,HS.out]
     have h9:=ay.out
     rw [aJ (by have:=ai.out;omega)] at h9
     simp only [List.all_cons,List.all_nil,Bool.and_true,bL]
     unfold fU
     rw [h9,decide_eq_true ap.out];rfl)
    go_wp2
    go_roundw
    case rel=>exact ⟨j+1,hlt,by go_num,am.out,HW.out,B1.out⟩
    simp [intOf];omega
   have hq:((sl:Int) != (ul:Int))=true:=by simp;omega
   have ak:Hid (ps.all (fU xs)=false):=h! (by
    rw [cE]
    refine ⟨p,bc.out, ?_⟩
    unfold fU
    rw [decide_eq_false (by rw [<-be.out, <-ai.out];exact hlen)]
    simp)
   clear hlen
   go_wp2
   go_ret
   exact ⟨gQ ak.out.symm,HW.out⟩
  have ar:Hid (ps.all (fU xs)=true):=h! (by have h9:=HS.out;rw [aJ (by have:=ba.out;omega)] at h9;exact h9)
  go_wp2
  go_ret
  exact ⟨gQ ar.out.symm,HW.out⟩
theorem zF {f:FuncD} (hn:1 <= f.blocks.length) {e:Int × Int × Int} (he:e ∈ entF f):0 <= e.2.1/\e.2.1 < (f.blocks.length:Int):=by
 unfold entF at he
 rcases aL.1 he with he | he
 ·unfold parN at he
  rw [bB] at he
  obtain ⟨j,_,rfl⟩:=he
  exact ⟨by show (0:Int) <= 0;omega,by show (0:Int) < _;omega⟩
 unfold blkN at he
 rw [cU] at he
 obtain ⟨⟨x,c⟩,hx,he⟩:=he
 rw [cV,bT] at hx
 have hc:c < f.blocks.length:=(aD.1 hx).1
 unfold entB at he
 have hd:e.2.1=(c:Int):=by
  rcases aL.1 he with he | he
  ·unfold phiN at he
   rw [bB] at he
   obtain ⟨p,_,rfl⟩:=he
   rfl
  unfold codN at he
  rw [List.mem_filterMap] at he
  obtain ⟨y,_,hy⟩:=he
  split at hy
  ·cases hy;rfl
  cases hy
 rw [hd]
 omega
theorem mO {f:FuncD} (hc:eV f=0) {u:UseD} (hu:u ∈ uxF f):∃ d k,((entF f).find? fun e=>e.1 == u.id)=some (u.id,d,k)/\0 <= d/\d < (f.blocks.length:Int):=by
 obtain ⟨h1,h2⟩:=eY hc
 have ab:=jP h1
 have hp:u.pair ∈ nR f:=by rw [<-uJ ab];exact bB.2 ⟨u,hu,rfl⟩
 have h3:kS (fC f) (nR f)=0:=by
  unfold eV at hc
  rw [if_pos (by rw [h1,h2];rfl)] at hc
  exact hc
 have h4:(nR f).any (fun u => !(tyOf (fC f) u.1).isSome)=false:=by
  unfold kS at h3
  cases h:(nR f).any (fun u => !(tyOf (fC f) u.1).isSome) with
  | false=>rfl
  | true=>rw [h,if_pos rfl] at h3;omega
 rw [List.any_eq_false] at h4
 have h5:=h4 u.pair hp
 have h6:u.id ∈ (entF f).map (·.1):=by
  rw [qM hc]
  refine Classical.byContradiction fun h => ?_
  have h7:=iI.2 h
  have h8:u.pair.1=u.id:=rfl
  rw [h8,h7] at h5
  exact h5 rfl
 obtain ⟨e,he,ac⟩:=bB.1 h6
 cases hf:((entF f).find? fun e=>e.1 == u.id) with
 | none =>
  rw [List.find?_eq_none] at hf
  exact absurd (by simp [ac]) (hf e he)
 | some e2 =>
  have h9:=List.find?_some hf
  have aa:=eH hf
  simp only [beq_iff_eq] at h9
  obtain ⟨r1,r2⟩:=zF (gG h1).1 aa
  obtain ⟨i,d,k⟩:=e2
  simp only at h9
  subst h9
  exact ⟨d,k,rfl,r1,r2⟩
theorem rH {f:FuncD} (h:gW f=true) {u:UseD} (hu:u ∈ uxF f):0 <= u.blk/\u.blk < (f.blocks.length:Int)/\(u.pos < 0 -> 0 <= u.src/\u.src < (f.blocks.length:Int)):=by
 unfold uxF at hu
 rw [cU] at hu
 obtain ⟨⟨x,c⟩,hx,hu⟩:=hu
 have ad:=hx
 rw [bT] at hx
 have hc:c < f.blocks.length:=(aD.1 hx).1
 unfold gW at h
 simp only [aK,aZ] at h
 have ab:=h.2 (x,c) ad
 unfold gA at ab
 simp only [aK,aZ] at ab
 unfold uxB at hu
 rw [bN] at hu
 rcases aL.1 hu with hu | hu
 ·rw [cU] at hu
  obtain ⟨p,hp,hu⟩:=hu
  have aa:=ab.1.1.2 p hp
  unfold iQ at aa
  simp only [aK,aZ] at aa
  unfold uxP at hu
  rw [bB] at hu
  obtain ⟨vs,ac,rfl⟩:=hu
  have hs:=List.of_mem_zip ac
  have hn:=aa.1.2 vs.2 hs.2
  unfold numB at hn
  simp at hn
  exact ⟨by show (0:Int) <= (c:Int);omega,by show (c:Int) < _;omega,fun _=>hn⟩
 rcases aL.1 hu with hu | hu
 ·rw [cU] at hu
  obtain ⟨yk,hy,hu⟩:=hu
  unfold uxI at hu
  rw [bB] at hu
  obtain ⟨a,ha,rfl⟩:=hu
  exact ⟨by show (0:Int) <= (c:Int);omega,by show (c:Int) < _;omega,fun h=>by exfalso;have h:((yk.2:Nat):Int) < 0:=h;omega⟩
 unfold uxT at hu
 split at hu
 ·simp at hu
  subst hu
  exact ⟨by show (0:Int) <= (c:Int);omega,by show (c:Int) < _;omega,fun h=>by exfalso;have h:((x.code.length:Nat):Int) < 0:=h;omega⟩
 split at hu
 ·simp at hu
  subst hu
  exact ⟨by show (0:Int) <= (c:Int);omega,by show (c:Int) < _;omega,fun h=>by exfalso;have h:((x.code.length:Nat):Int) < 0:=h;omega⟩
 simp at hu
def gV (f:FuncD) (u:UseD):Prop := ∃ d k,((entF f).find? fun e=>e.1 == u.id)=some (u.id,d,k) /\
 ((u.pos < 0/\kB f d.toNat u.src.toNat) \/ (¬ u.pos < 0/\kI f d k u.blk u.pos))
def gD (f : FuncD) (b e : Int) : Prop :=
  (∃ c : Nat, c < f.blocks.length ∧ ¬ Way (toB f) (-1) c ∧ (∀ d, d < c → Way (toB f) (-1) d) ∧ b = c ∧ e = 4) ∨
  ((∀ d, d < f.blocks.length → Way (toB f) (-1) d) ∧
    ((∃ (c : Nat) (x : BlockD), f.blocks[c]? = some x ∧ x.phis.all (fU (natI (fX f f.blocks.length 0 c))) = false ∧ (∀ (d : Nat) (y : BlockD), d < c → f.blocks[d]? = some y → y.phis.all (fU (natI (fX f f.blocks.length 0 d))) = true) ∧ b = c ∧ e = 5) ∨
     ((∀ (d : Nat) (y : BlockD), f.blocks[d]? = some y → y.phis.all (fU (natI (fX f f.blocks.length 0 d))) = true) ∧
      ((∃ (i : Nat) (u : UseD), (uxF f)[i]? = some u ∧ ¬ gV f u ∧ (∀ v ∈ (uxF f).take i, gV f v) ∧ b = u.blk ∧ e = 6) ∨
       ((∀ v ∈ uxF f, gV f v) ∧ b = 0 ∧ e = 0)))))
end Go.Proofs.YtagabiidbbhhmaaGreat
