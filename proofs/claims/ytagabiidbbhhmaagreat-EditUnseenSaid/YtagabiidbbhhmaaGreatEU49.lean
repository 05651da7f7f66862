/- Part 49. -/
import Derived.Test.YtagabiidbbhhmaaGreatEU48
namespace Go.Proofs.YtagabiidbbhhmaaGreat
set_option linter.all false
open Go.RowKit
private theorem fN.alloc {w0 W:World} (h:fN w0 W) (o:Obj):fN w0 (W.alloc o):=h.later ((Below.refl _ _).alloc (aC _) o)
theorem fV.remake {W:World} {S:Foot} {v:Value} {ps:List PhiD} (h:fV W S v ps) {j:Nat} {p:PhiD} (hj:ps[j]? = some p) {g cap:Nat} (hv:v = .slice (some ⟨g,0,none⟩) ps.length cap)
  {y:Int} (hy:In64 y) {u2 u3:Value} {src vals:List Int} {T1 T2:Foot} (h1:eR W T1 u2 src) (h2:eR W T2 u3 vals) (h12:T1.off T2) (hS1:T1.off S) (hS2:T2.off S) :
  fV (((W.setCell ⟨g,j * 4,none⟩ (.int .i64 y)).setCell ⟨g,j * 4+2,none⟩ u2).setCell ⟨g,j * 4+3,none⟩ u3) (fun k=>S k \/ T1 k \/ T2 k) v (ps.set j { p with id:=y,src:=src,vals:=vals }):=by
 obtain ⟨cs,G,F,hp⟩:=h
 have hjl:=(aD.1 hj).1
 have hn:0 < ps.length:=by omega
 have hG:G g:=by
  obtain ⟨g',cap',ad,af, -⟩:=hp.row.addr hn
  rw [hv] at ad;cases ad;exact af
 have ac:S g:=hp.inG _ hG
 have aa:Off (Foot.one g) W (((W.setCell ⟨g,j * 4,none⟩ (.int .i64 y)).setCell ⟨g,j * 4+2,none⟩ u2).setCell ⟨g,j * 4+3,none⟩ u3) :=
  ((Off.set W ⟨g,j * 4,none⟩ _).trans (Off.set _ ⟨g,j * 4+2,none⟩ u2)).trans (Off.set _ ⟨g,j * 4+3,none⟩ u3)
 obtain ⟨⟨a,b,Sf,Sv,ae, -⟩, -, -,q2⟩:=hp.el j p hj
 have ab:=((hp.row.set hv hn (j * 4+0) (.int .i64 y)).set hv hn (j * 4+2) u2).set hv hn (j * 4+3) u3
 refine ⟨_,G,_,hp.put OPhi.nice hj { p with id:=y,src:=src,vals:=vals } (Fj:=fun k=>T1 k \/ T2 k) (aa.mono fun k _ hk=>.inl (by cases hk;exact hG)) ab (fun i hi hne => ?_) ?_ (fun k hk=>.inr (hk.elim (hS1 k) (hS2 k))) _ (fun k hk=>.inl hk) (fun k hk=>.inr hk) (fun k hk => ?_)⟩
 ·rw [gL hne (by omega),gL hne (by omega),gL hne (by omega)]
 ·rw [fA (by omega),fA (by omega),fA (by omega),ae]
  have k1:=h1.off aa (fun k h3 h4=>by cases h4;exact hS1 _ h3 ac)
  have k2:=h2.off aa (fun k h3 h4=>by cases h4;exact hS2 _ h3 ac)
  exact ⟨⟨u2,u3,T1,T2,rfl,k1,k2,h12,fun k h=>.inl h,fun k h=>.inr h⟩,fun k hk=>hk.elim (k1.lt k) (k2.lt k),hy,q2⟩
 ·have hz:(((W.setCell ⟨g,j * 4,none⟩ (.int .i64 y)).setCell ⟨g,j * 4+2,none⟩ u2).setCell ⟨g,j * 4+3,none⟩ u3).heap.size=W.heap.size:=by simp [World.setCell]
  rw [hz]
  exact hk.elim (hp.lt k) (fun h=>h.elim (h1.lt k) (h2.lt k))
def kJ (x y:BlockD):Prop:=y.phis.length=x.phis.length/\y.code.length=x.code.length/\y.term.op=x.term.op
def aEB (x:BlockD) (w:World) (e:Ending) (w' : World):Prop := ∃ (pv uv tv:Value) (S:Foot) (y:BlockD),e = .returned (.agg #[pv,uv,.int .i64 y.term.op,.int .i64 y.term.val,tv,.int .i64 y.term.n]) /\
 OBlock w' S [pv,uv,.int .i64 y.term.op,.int .i64 y.term.val,tv,.int .i64 y.term.n] y/\kJ x y/\kC w.heap.size S/\Below w.heap.size w w'
set_option maxHeartbeats 25600000 in
set_option maxRecDepth 100000 in
theorem tK {w : World} {v : Value} {x : BlockD} {pm pb mb : Nat} {P T : List (Int × Int)} (hv : BlockV w v x) (hp1 : x.phis.length ≤ 100000) (hc1 : x.code.length ≤ 100000) (hlen : ∀ p ∈ x.phis, p.src.length = p.vals.length ∧ p.src.length ≤ 512) (hP : IMap w pm (encT P)) (hP64 : ∀ z ∈ P, In64 z.2) (hb : Box w pb #[.map (some mb)]) (hT : IMap w mb (encT T)) (hT64 : ∀ z ∈ T, In64 z.2) :
    Calls Tryz.prog 122 #[v, .map (some pm), .func (.func 121) #[] #[.pointer (some ⟨pb, 0, none⟩)]] w (aEB x w) := by
  have HX := h! hv
  have fd := h! (And.intro hp1 hc1)
  have gb := h! hlen
  have fl : Hid (∀ (W : World) (v : Int), Below w.heap.size w W → Calls Tryz.prog 121 #[.int .i64 v, .pointer (some ⟨pb, 0, none⟩)] W fun e w' => e = .returned (.int .i64 (toP T v)) ∧ Below W.heap.size W w') := h! (fun W v h => uP (hb.later h) (hT.later h))
  have ib : Hid (∀ (W : World) (q : Int), Below w.heap.size w W → (Instr.lookup 93 (.map (some pm)) (.int .i64 q) true).run Tryz.prog W = .ok (.tuple #[.int .i64 ((tyOf P q).getD 0), .bool (tyOf P q).isSome]) W) := h! (fun W q h => by
    rw [(hP.later h).lookup Tryz.underlying93 Tryz.underlying3 (fY _) q, gR]
    cases tyOf P q <;> rfl)
  have db : Hid (∀ q, In64 ((tyOf P q).getD 0)) := h! (fun q => nH hP64 q)
  have bq : Hid (∀ v, In64 v → In64 (toP T v)) := h! (fun v hv => by
    unfold toP
    cases ht : tyOf T v with
    | none => exact hv
    | some t => exact hT64 _ (mY ht))
  obtain ⟨⟨pv, uv, tv, rfl, hp, hc, ht⟩, ga, fk, fq⟩ := hv
  obtain ⟨ap, cp, rfl⟩ := hp.form
  obtain ⟨ac, cc, rfl⟩ := hc.form
  obtain ⟨ta, tc, rfl⟩ := ht.form
  clear hp hc ht hp1 hc1 hlen hP hP64 hb hT hT64 ga fk fq
  have ev : ∀ (args : Array Value) (w : World), (callFunc 121 args).run Tryz.prog w = .ok (.enter 121 args) w := lH
  go_enter Tryz.func122, Tryz.ntmps122
  go_upto_region 1 with (fail)
  have ax := (Below.refl w.heap.size w).alloc (aC _) (.cells #[.slice ap x.phis.length cp, .slice ac x.code.length cc, .int .i64 x.term.op, .int .i64 x.term.val, .slice ta x.term.to.length tc, .int .i64 x.term.n] 63)
  have HW := h! ax
  clear ax
  have B3 := h! (Box.new w #[.slice ap x.phis.length cp, .slice ac x.code.length cc, .int .i64 x.term.op, .int .i64 x.term.val, .slice ta x.term.to.length tc, .int .i64 x.term.n] 63)
  have dr : (w.alloc (.cells #[.slice ap x.phis.length cp, .slice ac x.code.length cc, .int .i64 x.term.op, .int .i64 x.term.val, .slice ta x.term.to.length tc, .int .i64 x.term.n] 63)).heap.size = w.heap.size + 1 := World.size_alloc _ _
  generalize w.alloc (.cells #[.slice ap x.phis.length cp, .slice ac x.code.length cc, .int .i64 x.term.op, .int .i64 x.term.val, .slice ta x.term.to.length tc, .int .i64 x.term.n] 63) = ew at *
  have ax := (Below.refl ew.heap.size ew).alloc (aC _) (.cells #[.slice none 0 0, .slice none 0 0, .int .i64 0, .int .i64 0, .slice none 0 0, .int .i64 0] 63)
  replace B3 := h! (B3.out.later ax)
  replace HW := h! (HW.out.trans (ax.mono HW.out.size))
  clear ax
  have B6 := h! (Box.new ew #[.slice none 0 0, .slice none 0 0, .int .i64 0, .int .i64 0, .slice none 0 0, .int .i64 0] 63)
  rw [dr] at B6
  clear dr
  generalize ew.alloc (.cells #[.slice none 0 0, .slice none 0 0, .int .i64 0, .int .i64 0, .slice none 0 0, .int .i64 0] 63) = wv at *
  obtain ⟨cw, ek, ea⟩ := B3.out
  obtain ⟨bs, bm, bz⟩ := B6.out
  go_wp2_with fail
  refine (rQ (HX.out.below HW.out) fd.out.1 fd.out.2).mono ?_
  rintro e w1 ⟨pv, uv, tv, S, rfl, hO, hF, hb⟩
  obtain ⟨aj, al, am, ad, ab, ag, S1, S2, S3, hC, h1, h2, h3, ef, hA, hn, i1, i2, i3, q1, q2, q3, bb⟩ := hO.parts
  obtain ⟨rfl, rfl, rfl⟩ : pv = .slice aj x.phis.length ad ∧ uv = .slice al x.code.length ab ∧ tv = .slice am x.term.to.length ag := by simpa using hC
  obtain ⟨ai, bh⟩ : ∃ n, n = x.phis.length := ⟨_, rfl⟩
  obtain ⟨ah, be⟩ : ∃ n, n = x.code.length := ⟨_, rfl⟩
  obtain ⟨ae, bd⟩ : ∃ n, n = x.term.to.length := ⟨_, rfl⟩
  rw [← bh] at h1 bb
  rw [← be] at h2 bb
  rw [← bd] at h3 bb
  rw [← bh, ← be, ← bd]
  have bp := h! bh
  have eb := h! be
  have cm := h! bd
  have hnpb : ai ≤ 100000 := by rw [bh]; exact fd.out.1
  have hncb : ah ≤ 100000 := by rw [be]; exact fd.out.2
  have hntb : ae ≤ 17592186044416 := by have h9 := h3.1.big; rw [← bd] at h9; exact h9
  have ao : Hid (∀ q, S q → w.heap.size + 1 < q ∧ q < w1.heap.size) := h! (fun q hq => ⟨by have := hF q hq; omega, hO.lt q hq⟩)
  have HCLO := h! bb
  have bO := h! (And.intro ef (And.intro hA hn))
  have aq := h! (And.intro i1 (And.intro i2 i3))
  have H1 : Hid (Holds [] 0 w1 S1 (fun W => fV W S1 (.slice aj ai ad) x.phis)) := h! (jE OPhi.nice h1 (fun _ _ => aH _))
  have H2 : Hid (Holds [] 0 w1 S2 (fun W => gX W S2 (.slice al ah ab) x.code)) := h! (jE OInstr.nice h2 (fun _ _ => aH _))
  have H3 : Hid (Holds [] 0 w1 S3 (fun W => eR W S3 (.slice am ae ag) x.term.to)) := h! (gF h3 (fun _ _ => aH _))
  clear hO hF hC h1 h2 h3 ef hA hn i1 i2 i3 q1 q2 q3 bb bh be bd
  clear cw ek ea bs bm bz
  replace B3 := h! (B3.out.later hb)
  replace B6 := h! (B6.out.later hb)
  replace HW := h! (HW.out.trans (hb.mono HW.out.size))
  clear hb
  obtain ⟨cw, ek, ea⟩ := B3.out
  obtain ⟨bs, bm, bz⟩ := B6.out
  go_upto_region 2 with (fail)
  have hd : w.heap.size + 1 < w1.heap.size := B6.out.lt
  have eg : w1.heap.size ≠ w.heap.size := fun e => by have := cw; omega
  have nB3B7 : w.heap.size ≠ w1.heap.size := fun e => eg e.symm
  have ed : w1.heap.size ≠ w.heap.size + 1 := fun e => by have := bs; omega
  have nB6B7 : w.heap.size + 1 ≠ w1.heap.size := fun e => ed e.symm
  clear cw ek ea bs bm bz
  have ax := (Below.refl w1.heap.size w1).alloc (aC _) (.cells #[.slice aj ai ad, .slice al ah ab, .int .i64 x.term.op, .int .i64 x.term.val, .slice am ae ag, .int .i64 x.term.n] 63)
  replace B3 := h! (B3.out.later ax)
  replace B6 := h! (B6.out.later ax)
  replace H1 := h! (H1.out.later ax)
  replace H2 := h! (H2.out.later ax)
  replace H3 := h! (H3.out.later ax)
  replace HW := h! (HW.out.trans (ax.mono HW.out.size))
  clear ax
  have B7 := h! (Box.new w1 #[.slice aj ai ad, .slice al ah ab, .int .i64 x.term.op, .int .i64 x.term.val, .slice am ae ag, .int .i64 x.term.n] 63)
  generalize w1.alloc (.cells #[.slice aj ai ad, .slice al ah ab, .int .i64 x.term.op, .int .i64 x.term.val, .slice am ae ag, .int .i64 x.term.n] 63) = w2 at *
  obtain ⟨cw, ek, ea⟩ := B3.out
  obtain ⟨bs, bm, bz⟩ := B6.out
  obtain ⟨ft, fj, fp⟩ := B7.out
  clear cw ek ea bs bm bz ft fj fp
  obtain ⟨b7, et⟩ : ∃ b7, b7 = w1.heap.size := ⟨_, rfl⟩
  have fo : w.heap.size + 1 < b7 := by rw [et]; exact hd
  clear hd
  rw [← et] at B7 ao
  simp only [← et]
  clear et
  have hl7 : b7 < w2.heap.size := B7.out.lt
  obtain ⟨ft, fj, fp⟩ := B7.out
  go_wp2_with fail
  clear ft fj fp
  --@A
  go_loopw [27] (fun iv wr => ∃ (k : Nat) (Sp : Foot) (ps : List PhiD), k ≤ ai ∧ iv = .int .i64 k ∧ fV wr Sp (.slice aj ai ad) ps ∧ ps.length = ai ∧ (∀ q, k ≤ q → ps[q]? = x.phis[q]?) ∧ (∀ q, Sp q → S1 q ∨ w2.heap.size ≤ q) ∧ Off S1 w2 wr) (fun iv _ => ai - (intOf iv).toNat)
  case atStart => exact ⟨0, S1, x.phis, aH _, rfl, H1.out.now, bp.out.symm, fun q _ => rfl, fun q h => .inl h, Off.refl _ _⟩
  case round =>
    obtain ⟨k, Sp, ps, hk, rfl, cd, gz, il, gB, ho⟩ := hrel
    have ec := h! cd
    have ce := h! gz
    have hI := h! il
    have hG := h! gB
    have cr := h! ho
    clear cd gz il gB ho
    generalize wr = wp at *
    have hwp2 : w2.heap.size ≤ wp.heap.size := cr.out.size
    have ez : Hid (Box wp b7 #[.slice aj ai ad, .slice al ah ab, .int .i64 x.term.op, .int .i64 x.term.val, .slice am ae ag, .int .i64 x.term.n]) := h! (B7.out.off cr.out (fun h => by have := ao.out _ (aq.out.1 _ h); omega))
    have dv : Hid (Below w.heap.size w wp) := h! (HW.out.trans (Off.below cr.out HW.out.size (fun q _ hq => by have := ao.out q (aq.out.1 q hq); omega)))
    by_cases hlt : k < ai
    · obtain ⟨p, hp⟩ : ∃ p, x.phis[k]? = some p := ⟨_, aB (by rw [← bp.out]; exact hlt)⟩
      have fz : ps[k]? = some p := (hI.out k (aC _)).trans hp
      obtain ⟨gp, capp, af, av, cf, cv, Sf, Sv, hv, aw, bo, ei, hh, gd, fh, -, jr, iG, nf, nv, -⟩ := fV.both ec.out fz
      rw [ce.out] at hv
      injection hv with e1 e2 e3
      subst e1
      subst e3
      have co : S1 gp := by
        obtain ⟨cs, G, F, hg⟩ := H1.out.now
        obtain ⟨g', c', io, iy, -⟩ := hg.row.addr (by rw [← bp.out]; omega)
        injection io with q1 q2 q3
        injection q1 with q1
        injection q1 with q1
        rw [q1]; exact hg.inG _ iy
      obtain ⟨hS, ix⟩ := gb.out p (aG hp)
      obtain ⟨sl, eo⟩ : ∃ sl, sl = p.src.length := ⟨_, rfl⟩
      have gx : p.vals.length = sl := by rw [eo, hS]
      have m0 := ei.c0
      have m2 := ei.c2
      have m3 := ei.c3
      rw [← eo] at m2 gd ix
      rw [gx] at m3 fh
      have hW := h! eo
      have en := h! gx
      have iz := h! m0
      have jh := h! m2
      have ik := h! m3
      have fs := h! ei.id64
      have gj := h! gd
      have dx := h! fh
      have jg := h! hh
      have jf := h! co
      have ir := h! fz
      have hgp7 : gp < b7 := (ao.out gp (aq.out.1 gp co)).2
      clear hp fz ei hh gd fh jr iG nf nv bo hS eo gx m0 m3 e2 co
      obtain ⟨ch, ck, cq⟩ := ez.out
      go_wp2_with fail
      clear ch ck cq
      clear m2
      --@B
      go_loopw [10, 11, 39] (fun fv vv iv wr => ∃ (jj n : Nat) (T1 T2 : Foot) (a1 a2 : Option Addr) (c1 c2 : Nat) (xs ys : List Int), jj ≤ sl ∧ iv = .int .i64 jj ∧ fv = .slice a1 n c1 ∧ vv = .slice a2 n c2 ∧ Below wp.heap.size wp wr ∧ eR wr T1 (.slice a1 n c1) xs ∧ eR wr T2 (.slice a2 n c2) ys ∧ T1.off T2 ∧ kC wp.heap.size T1 ∧ kC wp.heap.size T2 ∧ n ≤ jj ∧ xs.length = n ∧ ys.length = n) (fun _ _ iv _ => sl - (intOf iv).toNat)
      case atStart => exact ⟨0, 0, Foot.none, Foot.none, none, none, 0, 0, [], [], aH _, rfl, rfl, rfl, Below.refl _ _, eR.nil none, eR.nil none, fun _ h => h.elim, fun _ h => h.elim, fun _ h => h.elim, aC _, rfl, rfl⟩
      case round =>
        obtain ⟨jj, n, T1, T2, a1, a2, c1, c2, xs, ys, hjj, rfl, rfl, rfl, ep, he, hH, ef, hM, hQ, hnj, hY, hs⟩ := hrel
        have ba := h! ep
        have fa := h! he
        have ff := h! hH
        have bg := h! ef
        have ar := h! (And.intro hM hQ)
        have ay := h! (And.intro hY hs)
        have cl : Hid (Below w.heap.size w wr) := h! (dv.out.trans (ep.mono dv.out.size))
        have cB : wp.heap.size ≤ wr.heap.size := ep.size
        clear ep he hH ef hM hQ hY hs
        by_cases hlt4 : jj < sl
        · obtain ⟨q, hq⟩ : ∃ q, p.src[jj]? = some q := ⟨_, aB (by rw [← hW.out]; exact hlt4)⟩
          obtain ⟨pv, fy⟩ : ∃ pv, p.vals[jj]? = some pv := ⟨_, aB (by rw [en.out]; exact hlt4)⟩
          obtain ⟨gs, cgs, ia, -, fi, hB, -, -⟩ := gj.out.addr hq
          rw [← hW.out] at ia
          cases ia
          obtain ⟨gv, cgv, ie, -, dj, ig, -, -⟩ := dx.out.addr fy
          rw [en.out] at ie
          cases ie
          have jk := (ba.out.cell (p := ⟨gs, jj, none⟩) fi).trans hB
          have jc := h! ((ba.out.cell (p := ⟨gv, jj, none⟩) dj).trans ig)
          have iq := h! ((ba.out.cell (p := ⟨gp, k * 4 + 3, none⟩) aw).trans ik.out)
          have dq : Hid (In64 pv) := h! (dx.out.2 pv (aG fy))
          obtain ⟨tq, ct⟩ : ∃ tq, tq = (tyOf P q).getD 0 := ⟨_, rfl⟩
          obtain ⟨kb, di⟩ : ∃ kb, kb = (tyOf P q).isSome := ⟨_, rfl⟩
          have bi : Hid (In64 tq) := h! (by rw [ct]; exact db.out q)
          have fe := ib.out wr q cl.out
          rw [← ct, ← di] at fe
          clear hB ig hq fy ct di
          cases kb
          · go_wp2
            go_roundw
            case rel => exact ⟨jj + 1, n, T1, T2, a1, a2, c1, c2, xs, ys, hlt4, by go_num, rfl, rfl, ba.out, fa.out, ff.out, bg.out, ar.out.1, ar.out.2, by omega, ay.out.1, ay.out.2⟩
            case measure => simp [intOf]; omega
          · skip
            --@T
            obtain ⟨XF, hr, eh, hj⟩ : ∃ XF : Nat → Foot, (∀ k, XF 3 k ↔ T1 k) ∧ (∀ k, XF 13 k ↔ T2 k) ∧ ∀ q k, XF q k → q = 3 ∨ q = 13 :=
              ⟨fun q => if q = 3 then T1 else if q = 13 then T2 else Foot.none, fun k => by simp, fun k => by simp, fun q k h => by
                by_cases e : q = 3
                · exact .inl e
                · by_cases e2 : q = 13
                  · exact .inr e2
                  · simp only [if_neg e, if_neg e2] at h; exact h.elim⟩
            have az := h! (And.intro hr (And.intro eh hj))
            have hZ : Hid (∀ k, T1 k → k < wr.heap.size) := h! fa.out.lt
            have fB : Hid (∀ k, T2 k → k < wr.heap.size) := h! ff.out.lt
            have N3 : Hid (∀ k, (T1 k ∨ wr.heap.size ≤ k) → ∀ q, q ≠ 3 → ¬ XF q k) := h! (fun k hk q hq hx => by
              rcases az.out.2.2 q k hx with e | e
              · exact hq e
              · subst e
                have h1 := (az.out.2.1 k).1 hx
                rcases hk with hk | hk
                · exact bg.out k hk h1
                · have := fB.out k h1; omega)
            have hD : Hid (∀ k, (T2 k ∨ wr.heap.size ≤ k) → ∀ q, q ≠ 13 → ¬ XF q k) := h! (fun k hk q hq hx => by
              rcases az.out.2.2 q k hx with e | e
              · subst e
                have h1 := (az.out.1 k).1 hx
                rcases hk with hk | hk
                · exact bg.out k h1 hk
                · have := hZ.out k h1; omega
              · exact hq e)
            have es : Hid (∀ q k, XF q k → wp.heap.size ≤ k) := h! (fun q k hx => by
              rcases az.out.2.2 q k hx with e | e
              · subst e; exact ar.out.1 k ((az.out.1 k).1 hx)
              · subst e; exact ar.out.2 k ((az.out.2.1 k).1 hx))
            have xW : ∀ q k, XF q k → k < wr.heap.size := fun q k h => by
              rcases az.out.2.2 q k h with e | e
              · subst e; exact hZ.out k ((az.out.1 k).1 h)
              · subst e; exact fB.out k ((az.out.2.1 k).1 h)
            have xI : ∀ w w' : World, True → Below w.heap.size w w' → True := fun _ _ _ _ => trivial
            have jo : True := trivial
            have dc : ∀ k, k < wr.heap.size → Four.All XF k → w.heap.size ≤ k := fun k _ ⟨q, h⟩ => by have := es.out q k h; have := dv.out.size; omega
            have hgp9 : gp < wp.heap.size := aw
            have hgv9 : gv < wp.heap.size := dj
            clear hr eh hj
            go_upto_region 12 with (fail)
            clear fe jk ev
            refine Four.wp_region_grow (XF := XF) (I := (fun _ => True)) 14 (fun ν kz => match kz with | 2 => .made wr.heap.size (fun b => .slice (some ⟨b, 0, none⟩) 1 1) #[.int .i64 tq] | 3 => .holds (fun u w' => ∃ (g1 c1 : Nat), u = .slice (some ⟨g1, 0, none⟩) (n + 1) c1 ∧ eR w' (Foot.one g1) u (xs ++ [tq]) ∧ (T1 g1 ∨ wr.heap.size ≤ g1)) | 12 => .made wr.heap.size (fun b => .slice (some ⟨b, 0, none⟩) 1 1) #[.int .i64 pv] | 13 => .holds (fun u w' => ∃ (g1 c1 : Nat), u = .slice (some ⟨g1, 0, none⟩) (n + 1) c1 ∧ eR w' (Foot.one g1) u (ys ++ [pv]) ∧ (T2 g1 ∨ wr.heap.size ≤ g1) ∧ ∀ g8 c8, ν 3 = .slice (some ⟨g8, 0, none⟩) (n + 1) c8 → g1 ≠ g8) | _ => .plain) (by kernel_rfl) (by kernel_rfl) ?_ ?_ xW xI jo ?_ (fun ν => ?_)
            · (intro ν k; (try dsimp only); split <;> first | exact True.intro | (intro u w1 w2 hu hb; first | (obtain ⟨g1, c1, e1, h1, h2⟩ := hu; exact ⟨g1, c1, e1, h1.off hb (fun k hk ⟨q, hq, hx⟩ => by cases hk; exact N3.out g1 h2 q hq hx), h2⟩) | (obtain ⟨g1, c1, e1, h1, h2, h3⟩ := hu; exact ⟨g1, c1, e1, h1.off hb (fun k hk ⟨q, hq, hx⟩ => by cases hk; exact hD.out g1 h2 q hq hx), h2, h3⟩)))
            · (intro ν ν' k h; first | rfl | ((try dsimp only); split <;> first | rfl | (rw [h 3 (by kernel_rfl)])))
            · (intro ν j B mk A h; (try dsimp only at h); split at h <;> first | (cases h; exact Nat.le_refl _) | cases h)
            simp only [aP, aU, aS, aX]
            iterate 2 (refine Four.Grow.val (v := ?_) rfl rfl (fun wg hbg hdg => ?_) ?_; rotate_left; (focus (clear hbg hdg; first | (go_simp; done) | (go_simp; with_reducible rfl))); simp only [Act.put, aA, aE, aF])
            refine Four.Grow.made (T := ?_) rfl rfl (fun wg hbg hdg => ?_) ?_
            rotate_left
            focus (clear hbg hdg; first | (go_simp; done) | (go_simp; with_reducible rfl))
            simp only [Act.put, Known.val, aA, aE, aF]
            refine Four.Grow.gives rfl (fun wg hbg hdg => ?_) ?_
            focus ((obtain ⟨bx, e2, ex, jb⟩ := hdg 2 (by kernel_rfl)); simp only [e2]; exact kU (xs := xs) (n := n) _ _ rfl rfl rfl ay.out.1 (fa.out.off hbg.1 (fun k hk ⟨q, hq, _, hx⟩ => N3.out k (.inl hk) q hq hx)) jb bi.out (by omega) (fun k hk => (az.out.1 k).2 hk) (fun g1 c1 w'' h2 h3 => ⟨g1, c1, rfl, h2, h3.imp_right (bA hbg.1.size)⟩))
            simp only [Act.put, Known.val, aA, aE, aF]
            iterate 4 (refine Four.Grow.val (v := ?_) rfl rfl (fun wg hbg hdg => ?_) ?_; rotate_left; (focus (clear hbg hdg; first | (go_simp; done) | (go_simp; with_reducible rfl))); simp only [Act.put, aA, aE, aF])
            refine Four.Grow.val (v := ?_) rfl rfl (fun wg hbg hdg => ?_) ?_
            rotate_left
            focus ((have z3 := (hbg.1.cell (b := gp) (o := k * 4 + 3) (by omega) (fun ⟨q, h1, h2, h3⟩ => by have := es.out q _ h3; omega)).trans iq.out); clear hbg hdg; first | (go_simp; done) | (go_simp; with_reducible rfl))
            simp only [Act.put, aA, aE, aF]
            iterate 2 (refine Four.Grow.val (v := ?_) rfl rfl (fun wg hbg hdg => ?_) ?_; rotate_left; (focus (clear hbg hdg; first | (go_simp; done) | (go_simp; with_reducible rfl))); simp only [Act.put, aA, aE, aF])
            refine Four.Grow.val (v := ?_) rfl rfl (fun wg hbg hdg => ?_) ?_
            rotate_left
            focus ((have z4 := (hbg.1.cell (b := gv) (o := jj) (by omega) (fun ⟨q, h1, h2, h3⟩ => by have := es.out q _ h3; omega)).trans jc.out); clear hbg hdg; first | (go_simp; done) | (go_simp; with_reducible rfl))
            simp only [Act.put, aA, aE, aF]
            refine Four.Grow.made (T := ?_) rfl rfl (fun wg hbg hdg => ?_) ?_
            rotate_left
            focus (clear hbg hdg; first | (go_simp; done) | (go_simp; with_reducible rfl))
            simp only [Act.put, Known.val, aA, aE, aF]
            refine Four.Grow.gives rfl (fun wg hbg hdg => ?_) ?_
            focus ((obtain ⟨bx, jm, ex, gg⟩ := hdg 12 (by kernel_rfl)); (have h6 : ∃ (g1 c1 : Nat), ν 3 = .slice (some ⟨g1, 0, none⟩) (n + 1) c1 ∧ eR wg (Foot.one g1) (ν 3) (xs ++ [tq]) ∧ (T1 g1 ∨ wr.heap.size ≤ g1) := hdg 3 (by kernel_rfl)); (obtain ⟨g6, c6, e6, o6, q6⟩ := h6); simp only [jm]; exact kU (xs := ys) (n := n) _ _ rfl rfl rfl ay.out.2 (ff.out.off hbg.1 (fun k hk ⟨q, hq, _, hx⟩ => hD.out k (.inl hk) q hq hx)) gg dq.out (by omega) (fun k hk => (az.out.2.1 k).2 hk) (fun g1 c1 w'' h2 h3 => ⟨g1, c1, rfl, h2, h3.imp_right (bA hbg.1.size), fun g' c' e' => by rw [e6] at e'; cases e'; intro e9; subst e9; have hlt6 := o6.lt _ rfl; rcases h3 with h3 | h3; (rcases q6 with q6 | q6; exact bg.out _ q6 h3; have := fB.out _ h3; omega); omega⟩))
            simp only [Act.put, Known.val, aA, aE, aF]
            intro wg hb hf fF
            obtain ⟨hl, bw, dk, dl⟩ := hf 2 (by omega)
            obtain ⟨hK, bn, dy, ds⟩ := hf 12 (by omega)
            have nBXBY : hl ≠ hK := fun e => fF 2 12 (by omega) (by omega) (by omega) rfl rfl (by rw [bw, bn, e])
            have nBYBX : hK ≠ hl := fun e => fF 12 2 (by omega) (by omega) (by omega) rfl rfl (by rw [bn, bw, e])
            simp only [bw, bn]
            clear bw bn
            clear fF
            have gBX := bA cl.out.size dk
            clear dk
            have gBY := bA cl.out.size dy
            clear dy
            replace cl := h! (cl.out.trans (hb.1.below cl.out.size dc))
            have BX := h! dl
            clear dl
            have BY := h! ds
            clear ds
            obtain ⟨lBX, cBX, fBX⟩ := BX.out
            obtain ⟨lBY, cBY, fBY⟩ := BY.out
            simp only [bH, Nat.reduceAdd]
            have h6 : ∃ (g1 c1 : Nat), ν 3 = .slice (some ⟨g1, 0, none⟩) (n + 1) c1 ∧ eR wg (Foot.one g1) (ν 3) (xs ++ [tq]) ∧ (T1 g1 ∨ wr.heap.size ≤ g1) := hf 3 (by omega)
            have jn : ∃ (g1 c1 : Nat), ν 13 = .slice (some ⟨g1, 0, none⟩) (n + 1) c1 ∧ eR wg (Foot.one g1) (ν 13) (ys ++ [pv]) ∧ (T2 g1 ∨ wr.heap.size ≤ g1) ∧ ∀ g8 c8, ν 3 = .slice (some ⟨g8, 0, none⟩) (n + 1) c8 → g1 ≠ g8 := hf 13 (by omega)
            obtain ⟨g6, c6, e6, o6, q6⟩ := h6
            obtain ⟨er, jd, gw, gq, hX, hE⟩ := jn
            have hm := hE g6 c6 e6
            rw [e6] at o6
            rw [gw] at gq
            simp only [e6, gw]
            have je : Hid (Below wp.heap.size wp wg) := h! (ba.out.trans (Off.below hb.1 ba.out.size (fun k _ ⟨q, h⟩ => es.out q k h)))
            have jp := h! o6
            have gc := h! gq
            have fm : Hid (wp.heap.size ≤ g6 ∧ wp.heap.size ≤ er ∧ g6 ≠ er) := h! ⟨q6.elim (ar.out.1 _) (fun h => by omega), hX.elim (ar.out.2 _) (fun h => by omega), fun e => hm e.symm⟩
            clear hf hb e6 gw o6 gq q6 hX hE hm
            go_wp2
            go_roundw
            case rel =>
              refine ⟨jj + 1, n + 1, Foot.one g6, Foot.one er, some ⟨g6, 0, none⟩, some ⟨er, 0, none⟩, c6, jd, xs ++ [tq], ys ++ [pv], hlt4, by go_num, rfl, rfl, je.out, jp.out, gc.out, fun k h1 h2 => ?_, fun k hk => by cases hk; exact fm.out.1, fun k hk => by cases hk; exact fm.out.2.1, by omega, by rw [aI, ay.out.1]; rfl, by rw [aI, ay.out.2]; rfl⟩
              cases h1; exact fm.out.2.2 h2
            case measure => simp [intOf]; omega
        · skip
          --@E
          have ak : Hid (Calls Tryz.prog 121 #[.int .i64 p.id, .pointer (some ⟨pb, 0, none⟩)] wr fun e w' => e = .returned (.int .i64 (toP T p.id)) ∧ Below wr.heap.size wr w') := h! (fl.out wr p.id cl.out)
          have hN := (ba.out.cell (p := ⟨gp, k * 4, none⟩) aw).trans iz.out
          have cg : Hid (In64 (toP T p.id)) := h! (bq.out _ fs.out)
          have df : Hid (∀ q, Sp q → q < wp.heap.size) := h! (by obtain ⟨cs, G, F, h9⟩ := ec.out; exact h9.lt)
          have bv : gp < wr.heap.size := aR aw cB
          obtain ⟨ti, dn⟩ : ∃ ti, ti = toP T p.id := ⟨_, rfl⟩
          rw [← dn] at ak cg
          clear dn
          go_wp2_with (go_at_fn 121; refine ak.out.mono ?_; rintro e w9 ⟨rfl, cx⟩; have fc := h! cx; have it := (cx.cell (p := ⟨gp, k * 4, none⟩) bv).trans hN; have ip := (cx.cell (p := ⟨gp, k * 4 + 2, none⟩) bv).trans ((ba.out.cell (p := ⟨gp, k * 4 + 2, none⟩) aw).trans jh.out); have ja := (cx.cell (p := ⟨gp, k * 4 + 3, none⟩) bv).trans ((ba.out.cell (p := ⟨gp, k * 4 + 3, none⟩) aw).trans ik.out); have jl : ∀ o, w9.frozen? ⟨gp, o, none⟩ = false := fun o => (cx.frozen (p := ⟨gp, o, none⟩) bv).trans ((ba.out.frozen (p := ⟨gp, o, none⟩) aw).trans (jg.out o)); clear cx hN)
          clear ev
          have dt : Hid (fV (((w9.setCell ⟨gp, k * 4, none⟩ (.int .i64 ti)).setCell ⟨gp, k * 4 + 2, none⟩ (.slice a1 n c1)).setCell ⟨gp, k * 4 + 3, none⟩ (.slice a2 n c2)) (fun q => Sp q ∨ T1 q ∨ T2 q) (.slice (some ⟨gp, 0, none⟩) ai ad) (ps.set k { p with id := ti, src := xs, vals := ys })) := h!
            (fV.remake (ec.out.off OPhi.nice (Off.of_below (ba.out.trans (fc.out.mono cB)) Foot.none) (fun _ _ h => h)) ir.out (g := gp) (cap := ad) (by rw [ce.out]) cg.out
              (fa.out.off (Off.of_below fc.out Foot.none) (fun _ _ h => h)) (ff.out.off (Off.of_below fc.out Foot.none) (fun _ _ h => h)) bg.out
              (fun q h1 h2 => by have := ar.out.1 q h1; have := df.out q h2; omega) (fun q h1 h2 => by have := ar.out.2 q h1; have := df.out q h2; omega))
          have dp : Hid (Off S1 w2 (((w9.setCell ⟨gp, k * 4, none⟩ (.int .i64 ti)).setCell ⟨gp, k * 4 + 2, none⟩ (.slice a1 n c1)).setCell ⟨gp, k * 4 + 3, none⟩ (.slice a2 n c2))) := h!
            (((cr.out.trans (Off.of_below ba.out _)).trans (Off.of_below fc.out _)).trans ((((Off.set w9 ⟨gp, k * 4, none⟩ _).trans (Off.set _ ⟨gp, k * 4 + 2, none⟩ _)).trans (Off.set _ ⟨gp, k * 4 + 3, none⟩ _)).mono fun q _ hq => by have e : q = gp := hq; rw [e]; exact jf.out))
          clear it ip ja jl
          go_roundw
          case rel =>
            refine ⟨k + 1, _, _, hlt, by go_num, dt.out, by rw [bQ]; exact ce.out, fun q hq => by rw [eI (by omega)]; exact hI.out q (by omega), fun q hq => ?_, dp.out⟩
            rcases hq with hq | hq | hq
            · exact hG.out q hq
            · have := ar.out.1 q hq; right; omega
            · have := ar.out.2 q hq; right; omega
          case measure => simp [intOf]; omega
    · skip
      --@C
      obtain rfl : ai = k := by omega
      have ii : Hid (gX wp S2 (.slice al ah ab) x.code) := h! (H2.out.now.off OInstr.nice cr.out (fun q h1 h2 => bO.out.1 q h2 h1))
      have ih : Hid (eR wp S3 (.slice am ae ag) x.term.to) := h! (H3.out.now.off cr.out (fun q h1 h2 => bO.out.2.1 q h2 h1))
      have an : Hid (∀ q, Sp q → ¬ S2 q ∧ ¬ S3 q ∧ q ≠ b7 ∧ w.heap.size + 1 < q) := h! (fun q hq => by
        rcases hG.out q hq with h | h
        · have := ao.out q (aq.out.1 q h)
          exact ⟨bO.out.1 q h, bO.out.2.1 q h, by omega, by omega⟩
        · refine ⟨fun h2 => ?_, fun h3 => ?_, by omega, by omega⟩
          · have := ao.out q (aq.out.2.1 q h2); omega
          · have := ao.out q (aq.out.2.2 q h3); omega)
      obtain ⟨ch, ck, cq⟩ := ez.out
      go_wp2_with fail
      clear ch ck cq
      go_loopw [87] (fun kv wr => ∃ (k : Nat) (ys : List InstrD), k ≤ ah ∧ kv = .int .i64 k ∧ gX wr S2 (.slice al ah ab) ys ∧ ys.length = ah ∧ Off S2 wp wr) (fun kv _ => ah - (intOf kv).toNat)
      case atStart => exact ⟨0, x.code, aH _, rfl, ii.out, eb.out.symm, Off.refl _ _⟩
      case round =>
        obtain ⟨k, ys, hk, rfl, cd, ij, ho⟩ := hrel
        have cz := h! cd
        have bk := h! ij
        have cj := h! ho
        clear cd ij ho
        have bc : Hid (Box wr b7 #[.slice aj ai ad, .slice al ah ab, .int .i64 x.term.op, .int .i64 x.term.val, .slice am ae ag, .int .i64 x.term.n]) := h! (ez.out.off cj.out (fun h => by have := ao.out _ (aq.out.2.1 _ h); omega))
        have fx : Hid (Below w.heap.size w wr) := h! (dv.out.trans (Off.below cj.out dv.out.size (fun q _ hq => by have := ao.out q (aq.out.2.1 q hq); omega)))
        by_cases hlt2 : k < ah
        · obtain ⟨y, hy⟩ : ∃ y, ys[k]? = some y := ⟨_, aB (by rw [bk.out]; exact hlt2)⟩
          obtain ⟨g1, fG, aa, ca, Sa, hv, ci, bo, ey, bl, -, -, -, -⟩ := gX.open cz.out (j := k) (y := y) hy
          rw [bk.out] at hv
          injection hv with e1 e2 e3
          subst e1
          subst e3
          have m1 := ey.c1
          have iw := h! m1
          have gf := h! bl
          have gn := h! bo
          have HY := h! hy
          have fg := h! ey.id64
          have hg7 : g1 < b7 := (ao.out g1 (aq.out.2.1 g1 bo)).2
          obtain ⟨lL, cL, fL⟩ := bc.out
          by_cases h0 : 0 ≤ y.id
          · have jq : decide (0 ≤ y.id) = true := by simpa using h0
            have ak : Hid (Calls Tryz.prog 121 #[.int .i64 y.id, .pointer (some ⟨pb, 0, none⟩)] wr fun e w' => e = .returned (.int .i64 (toP T y.id)) ∧ Below wr.heap.size wr w') := h! (fl.out wr y.id fx.out)
            have hi : Hid (In64 (toP T y.id)) := h! (bq.out _ fg.out)
            obtain ⟨ti, dn⟩ : ∃ ti, ti = toP T y.id := ⟨_, rfl⟩
            rw [← dn] at ak hi
            clear h0 hy ey bl bo e2 dn
            go_wp2_with (go_at_fn 121; refine ak.out.mono ?_; rintro e fb ⟨rfl, br⟩; have dg := h! br; have ji := (br.cell (p := ⟨g1, k * 4 + 1, none⟩) ci).trans iw.out; have gh : ∀ o, fb.frozen? ⟨g1, o, none⟩ = false := fun o => (br.frozen (p := ⟨g1, o, none⟩) ci).trans (gf.out o); clear br lL cL fL m1)
            clear ev
            have dt : Hid (gX (fb.setCell ⟨g1, k * 4 + 1, none⟩ (.int .i64 ti)) S2 (.slice (some ⟨g1, 0, none⟩) ah ab) (ys.set k { y with id := ti })) := h! (gX.ident (cz.out.off OInstr.nice (Off.of_below dg.out Foot.none) (fun _ _ h => h)) HY.out (g := g1) (cap := ab) (by rw [bk.out]) hi.out)
            have dp : Hid (Off S2 wp (fb.setCell ⟨g1, k * 4 + 1, none⟩ (.int .i64 ti))) := h! ((cj.out.trans (Off.of_below dg.out _)).trans ((Off.set fb ⟨g1, k * 4 + 1, none⟩ _).mono fun q _ hq => by have e : q = g1 := hq; rw [e]; exact gn.out))
            clear ji gh
            go_roundw
            case rel => exact ⟨k + 1, _, hlt2, by go_num, dt.out, by rw [bQ]; exact bk.out, dp.out⟩
            case measure => simp [intOf]; omega
          · have jq : decide (0 ≤ y.id) = false := by simpa using h0
            clear h0 hy ey bl bo e2
            go_wp2
            go_roundw
            case rel => exact ⟨k + 1, ys, hlt2, by go_num, cz.out, bk.out, cj.out⟩
            case measure => simp [intOf]; omega
        · obtain rfl : ah = k := by omega
          --@D
          generalize wr = wa at *
          have gm : Hid (fV wa Sp (.slice aj ai ad) ps) := h! (ec.out.off OPhi.nice cj.out (fun q h1 h2 => (an.out q h1).1 h2))
          have gk : Hid (eR wa S3 (.slice am ae ag) x.term.to) := h! (ih.out.off cj.out (fun q h1 h2 => bO.out.2.2 q h2 h1))
          have hL : Hid (BlockC wa b7 0 (⟨ps, ys, x.term⟩ : BlockD) aj al am ad ab ag) := h!
            ⟨by show wa.cell? ⟨b7, 0, none⟩ = some (.slice aj ps.length ad); rw [ce.out]; exact bc.out.at 0 rfl,
             by show wa.cell? ⟨b7, 1, none⟩ = some (.slice al ys.length ab); rw [bk.out]; exact bc.out.at 1 rfl,
             bc.out.at 2 rfl, bc.out.at 3 rfl,
             by show wa.cell? ⟨b7, 4, none⟩ = some (.slice am x.term.to.length ag); rw [← cm.out]; exact bc.out.at 4 rfl,
             bc.out.at 5 rfl,
             by show eU PhiR 4 wa (.slice aj ps.length ad) ps; rw [ce.out]; exact gm.out.reads (R0 := PhiR) fun _ _ _ h => h.reads,
             by show eU gZ 4 wa (.slice al ys.length ab) ys; rw [bk.out]; exact cz.out.reads (R0 := gZ) fun _ _ _ h => h.reads,
             by show Ints wa (.slice am x.term.to.length ag) x.term.to; rw [← cm.out]; exact gk.out.ints,
             HX.out.op, HX.out.val, HX.out.n⟩
          have ic : Hid (pP 121 #[.pointer (some ⟨pb, 0, none⟩)] (toP T) (fun q => w.heap.size + 1 < q) wa) := h! (fun W v _ ho => fl.out W v (fx.out.trans (Off.below ho fx.out.size (fun q _ hq => by have h9 : w.heap.size + 1 < q := hq; omega))))
          have ak : Hid (Calls Tryz.prog 92 #[.pointer (some ⟨b7, 0, none⟩), .func (.func 121) #[] #[.pointer (some ⟨pb, 0, none⟩)]] wa (zR wa b7 0 (⟨ps, ys, x.term⟩ : BlockD) aj al ad ab Sp S2 (toP T))) := h!
            (rK hL.out bc.out.lt bc.out.free (by have h9 := gm.out; rw [← ce.out] at h9; exact h9) (by have h9 := cz.out; rw [← bk.out] at h9; exact h9) (fun h => (an.out b7 h).2.2.1 rfl) (fun h => by have := ao.out _ (aq.out.2.1 _ h); omega)
              (fun q h1 h2 => (an.out q h1).1 h2) (fun q hq => (an.out q hq).2.2.2) (fun q hq => (ao.out q (aq.out.2.1 q hq)).1) lH bq.out ic.out)
          clear ev
          go_wp2_with fail
          refine ak.out.mono ?_
          rintro e bj ⟨W1, rfl, bt, dz, dw, cM⟩
          --@F
          obtain ⟨vl, cb, ex, bf⟩ : ∃ vl : Int, In64 vl ∧ Box bj b7 #[.slice aj ai ad, .slice al ah ab, .int .i64 x.term.op, .int .i64 vl, .slice am ae ag, .int .i64 x.term.n] ∧ Off (Foot.one b7) W1 bj := by
            have ha := bc.out.off bt (fun h => h.elim (fun h => (an.out b7 h).2.2.1 rfl) (fun h => by have := ao.out _ (aq.out.2.1 _ h); omega))
            rcases cM with ⟨-, rfl⟩ | ⟨-, rfl⟩
            · exact ⟨toP T x.term.val, bq.out _ HX.out.val, ha.set 3 (.int .i64 (toP T x.term.val)), Off.set W1 ⟨b7, 3, none⟩ _⟩
            · exact ⟨x.term.val, HX.out.val, ha, Off.refl _ _⟩
          have hw : Hid (fV bj Sp (.slice aj ai ad) (ps.map (mapP (toP T)))) := h! (by
            have h9 : fV W1 Sp (.slice aj ps.length ad) (ps.map (mapP (toP T))) := dz
            rw [ce.out] at h9
            exact h9.off OPhi.nice bf (fun q h1 h2 => (an.out q h1).2.2.1 h2))
          have hR : Hid (gX bj S2 (.slice al ah ab) (ys.map (mapX (toP T)))) := h! (by
            have h9 : gX W1 S2 (.slice al ys.length ab) (ys.map (mapX (toP T))) := dw
            rw [bk.out] at h9
            exact h9.off OInstr.nice bf (fun q h1 h2 => by have e : q = b7 := h2; have := ao.out q (aq.out.2.1 q h1); omega))
          have hU : Hid (eR bj S3 (.slice am ae ag) x.term.to) := h! ((gk.out.off bt (fun q h1 h2 => h2.elim (fun h => (an.out q h).2.1 h1) (fun h => bO.out.2.2 q h h1))).off bf (fun q h1 h2 => by have e : q = b7 := h2; have := ao.out q (aq.out.2.2 q h1); omega))
          have dd : Hid (Off (fun q => w.heap.size + 1 < q) w2 bj) := h! ((((cr.out.mono fun q _ h => (ao.out q (aq.out.1 q h)).1).trans (cj.out.mono fun q _ h => (ao.out q (aq.out.2.1 q h)).1)).trans (bt.mono fun q _ h => h.elim (fun h => (an.out q h).2.2.2) (fun h => (ao.out q (aq.out.2.1 q h)).1))).trans (bf.mono fun q _ h => by have e : q = b7 := h; rw [e]; exact fo))
          have hV : Hid (Below w.heap.size w bj) := h! (HW.out.trans (Off.below dd.out HW.out.size (fun q _ hq => by have h9 : w.heap.size + 1 < q := hq; omega)))
          have im : Hid (Box bj (w.heap.size + 1) #[.slice none 0 0, .slice none 0 0, .int .i64 0, .int .i64 0, .slice none 0 0, .int .i64 0]) := h! (B6.out.off dd.out (fun h => by have h9 : w.heap.size + 1 < w.heap.size + 1 := h; omega))
          have fM := h! ex
          have en := h! cb
          clear bt dz dw cM cb ex bf ak ic hL
          obtain ⟨gl, fw, gr⟩ := fM.out
          go_wp2_with fail
          clear gl fw gr
          go_loopw [115] (fun kv wr => ∃ (k : Nat) (to : List Int), k ≤ ae ∧ kv = .int .i64 k ∧ eR wr S3 (.slice am ae ag) to ∧ to.length = ae ∧ Off S3 bj wr) (fun kv _ => ae - (intOf kv).toNat)
          case atStart => exact ⟨0, x.term.to, aH _, rfl, hU.out, cm.out.symm, Off.refl _ _⟩
          case round =>
            obtain ⟨k, to, hk, rfl, cd, gy, ho⟩ := hrel
            have da := h! cd
            have cy := h! gy
            have cn := h! ho
            clear cd gy ho
            have ee : Hid (Box wr b7 #[.slice aj ai ad, .slice al ah ab, .int .i64 x.term.op, .int .i64 vl, .slice am ae ag, .int .i64 x.term.n]) := h! (fM.out.off cn.out (fun h => by have := ao.out _ (aq.out.2.2 _ h); omega))
            have ej : Hid (Below w.heap.size w wr) := h! (hV.out.trans (Off.below cn.out hV.out.size (fun q _ hq => by have := ao.out q (aq.out.2.2 q hq); omega)))
            by_cases hlt3 : k < ae
            · obtain ⟨q, hq⟩ : ∃ q, to[k]? = some q := ⟨_, aB (by rw [cy.out]; exact hlt3)⟩
              obtain ⟨g1, fG, hv, bo, ci, hcell, bl, -⟩ := da.out.addr hq
              rw [cy.out] at hv
              injection hv with e1 e2 e3
              subst e1
              subst e3
              have gn := h! bo
              obtain ⟨tq, ct⟩ : ∃ tq, tq = (tyOf P q).getD 0 := ⟨_, rfl⟩
              obtain ⟨kb, di⟩ : ∃ kb, kb = (tyOf P q).isSome := ⟨_, rfl⟩
              have bi : Hid (In64 tq) := h! (by rw [ct]; exact db.out q)
              have fe := ib.out wr q ej.out
              rw [← ct, ← di] at fe
              clear bo hq ct di e2
              cases kb
              · go_wp2
                go_roundw
                case rel => exact ⟨k + 1, to, hlt3, by go_num, da.out, cy.out, cn.out⟩
                case measure => simp [intOf]; omega
              · obtain ⟨lL, cL, fL⟩ := ee.out
                have dt : Hid (eR (wr.setCell ⟨g1, k, none⟩ (.int .i64 tq)) S3 (.slice (some ⟨g1, 0, none⟩) ae ag) (to.set k tq)) := h! (eR.set da.out (g := g1) (cap := ag) (by rw [cy.out]) (i := k) (by rw [cy.out]; exact hlt3) bi.out)
                have dp : Hid (Off S3 bj (wr.setCell ⟨g1, k, none⟩ (.int .i64 tq))) := h! (cn.out.trans ((Off.set wr ⟨g1, k, none⟩ _).mono fun z _ hz => by have h9 : z = g1 := hz; rw [h9]; exact gn.out))
                go_wp2
                go_roundw
                case rel => exact ⟨k + 1, _, hlt3, by go_num, dt.out, by rw [bQ]; exact cy.out, dp.out⟩
                case measure => simp [intOf]; omega
            · obtain rfl : ae = k := by omega
              --@G
              generalize wr = wz at *
              have dm : Hid (Holds [w.heap.size + 1] (w.heap.size + 1 + 1) wz Sp (fun W => fV W Sp (.slice aj ai ad) (ps.map (mapP (toP T))))) := h! ((jE OPhi.nice (hw.out.off OPhi.nice cn.out (fun q h1 h2 => (an.out q h1).2.1 h2)) (fun k hk => (an.out k hk).2.2.2)).low (by intro z hz; simp at hz; omega))
              have cG : Hid (Holds [w.heap.size + 1] (w.heap.size + 1 + 1) wz S2 (fun W => gX W S2 (.slice al ah ab) (ys.map (mapX (toP T))))) := h! ((jE OInstr.nice (hR.out.off OInstr.nice cn.out (fun q h1 h2 => bO.out.2.2 q h1 h2)) (fun k hk => (ao.out k (aq.out.2.1 k hk)).1)).low (by intro z hz; simp at hz; omega))
              have cF : Hid (Holds [w.heap.size + 1] (w.heap.size + 1 + 1) wz S3 (fun W => eR W S3 (.slice am ae ag) to)) := h! ((gF da.out (fun k hk => (ao.out k (aq.out.2.2 k hk)).1)).low (by intro z hz; simp at hz; omega))
              replace B6 := h! (im.out.off cn.out (fun h => by have := ao.out _ (aq.out.2.2 _ h); omega))
              clear hw hR hU da gm gk ec cz ii ih H1 H2 H3 im fM bc ez
              obtain ⟨bs, bm, bz⟩ := B6.out
              obtain ⟨dh, de, em⟩ := ee.out
              go_upto_region 31 with (fail)
              repeat (first | go_skip | go_guarded | go_step | go_upon)
              --@H
              clear bs bm bz dh de em
              have gi := ((((((Only.set wz (w.heap.size + 1) 0 (.slice aj ai ad)).put 1 (.slice al ah ab)).put 2 (.int .i64 x.term.op)).put 3 (.int .i64 vl)).put 4 (.slice am ae ag)).put 5 (.int .i64 x.term.n))
              replace ee := h! (ee.out.only gi (by first | assumption | (simp; done) | omega))
              replace dm := h! ((((((dm.out.other (p := ⟨w.heap.size + 1, 0, none⟩) (.slice aj ai ad) (by simp)).other (p := ⟨w.heap.size + 1, 1, none⟩) (.slice al ah ab) (by simp)).other (p := ⟨w.heap.size + 1, 2, none⟩) (.int .i64 x.term.op) (by simp)).other (p := ⟨w.heap.size + 1, 3, none⟩) (.int .i64 vl) (by simp)).other (p := ⟨w.heap.size + 1, 4, none⟩) (.slice am ae ag) (by simp)).other (p := ⟨w.heap.size + 1, 5, none⟩) (.int .i64 x.term.n) (by simp))
              replace cG := h! ((((((cG.out.other (p := ⟨w.heap.size + 1, 0, none⟩) (.slice aj ai ad) (by simp)).other (p := ⟨w.heap.size + 1, 1, none⟩) (.slice al ah ab) (by simp)).other (p := ⟨w.heap.size + 1, 2, none⟩) (.int .i64 x.term.op) (by simp)).other (p := ⟨w.heap.size + 1, 3, none⟩) (.int .i64 vl) (by simp)).other (p := ⟨w.heap.size + 1, 4, none⟩) (.slice am ae ag) (by simp)).other (p := ⟨w.heap.size + 1, 5, none⟩) (.int .i64 x.term.n) (by simp))
              replace cF := h! ((((((cF.out.other (p := ⟨w.heap.size + 1, 0, none⟩) (.slice aj ai ad) (by simp)).other (p := ⟨w.heap.size + 1, 1, none⟩) (.slice al ah ab) (by simp)).other (p := ⟨w.heap.size + 1, 2, none⟩) (.int .i64 x.term.op) (by simp)).other (p := ⟨w.heap.size + 1, 3, none⟩) (.int .i64 vl) (by simp)).other (p := ⟨w.heap.size + 1, 4, none⟩) (.slice am ae ag) (by simp)).other (p := ⟨w.heap.size + 1, 5, none⟩) (.int .i64 x.term.n) (by simp))
              replace ej := h! (gi.2.2 ej.out (by first | assumption | omega | (have := ej.out.size; omega) | (simp; done) | (simp; omega)))
              replace B6 := h! (Box.to (A' := #[(.slice aj ai ad), (.slice al ah ab), (.int .i64 x.term.op), (.int .i64 vl), (.slice am ae ag), (.int .i64 x.term.n)]) ((((((B6.out.set 0 (.slice aj ai ad)).set 1 (.slice al ah ab)).set 2 (.int .i64 x.term.op)).set 3 (.int .i64 vl)).set 4 (.slice am ae ag)).set 5 (.int .i64 x.term.n)) (by first | rfl | simp))
              clear gi
              generalize ((((((wz.setCell ⟨w.heap.size + 1, 0, none⟩ (.slice aj ai ad)).setCell ⟨w.heap.size + 1, 1, none⟩ (.slice al ah ab)).setCell ⟨w.heap.size + 1, 2, none⟩ (.int .i64 x.term.op)).setCell ⟨w.heap.size + 1, 3, none⟩ (.int .i64 vl)).setCell ⟨w.heap.size + 1, 4, none⟩ (.slice am ae ag)).setCell ⟨w.heap.size + 1, 5, none⟩ (.int .i64 x.term.n)) = wy at *
              obtain ⟨bs, bm, bz⟩ := B6.out
              obtain ⟨dh, de, em⟩ := ee.out
              --@I
              refine bodyPost_ret (v := .agg #[.slice aj ai ad, .slice al ah ab, .int .i64 x.term.op, .int .i64 vl, .slice am ae ag, .int .i64 x.term.n]) (by simp [results, Tryz.results122, go_sem, bm]) rfl ⟨_, _, _, fun q => Sp q ∨ S2 q ∨ S3 q, ⟨ps.map (mapP (toP T)), ys.map (mapX (toP T)), { x.term with val := vl, to := to }⟩, rfl, ⟨⟨_, _, _, Sp, S2, S3, rfl, dm.out.now, cG.out.now, ⟨⟨_, rfl, cF.out.now⟩, HX.out.op, en.out, HX.out.n⟩, fun q h1 h2 => (an.out q h1).1 h2, fun q h1 h2 => (an.out q h1).2.1 h2, bO.out.2.2, fun q h => .inl h, fun q h => .inr (.inl h), fun q h => .inr (.inr h)⟩, fun q hq => hq.elim (dm.out.lt q) (fun h => h.elim (cG.out.lt q) (cF.out.lt q))⟩, ⟨by show (ps.map (mapP (toP T))).length = x.phis.length; rw [bI, ce.out]; exact bp.out, by show (ys.map (mapX (toP T))).length = x.code.length; rw [bI, bk.out]; exact eb.out, rfl⟩, fun q hq => ?_, ej.out⟩
              rcases hq with hq | hq | hq
              · have := dm.out.base q hq; omega
              · have := cG.out.base q hq; omega
              · have := cF.out.base q hq; omega
end Go.Proofs.YtagabiidbbhhmaaGreat
