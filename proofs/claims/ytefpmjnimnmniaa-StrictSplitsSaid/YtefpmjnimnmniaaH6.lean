/- What the claim needs, part 6. -/
import Derived.Test.YtefpmjnimnmniaaH5
import Derived.Test.YtefpmjnimnmniaaH3
namespace Go.Proofs.Ytefpmjnimnmniaa
set_option linter.unusedSimpArgs false
set_option linter.unusedVariables false
open Go.RowKit
set_option maxHeartbeats 3200000 in
theorem shape17 {w : World} : Calls Try.prog 64 #[.int .i64 17] w (ShpR 17 w) := by
  go_enter Try.func64, Try.ntmps64
  go_upto_region 1 with (fail)
  have B2 : Hid (Box (w.alloc (.cells #[.int .i64 0, .slice none 0 0, .int .i64 0] 91)) (w.heap.size) #[.int .i64 0, .slice none 0 0, .int .i64 0]) := Lib.hid (by simpa using (Box.new w #[.int .i64 0, .slice none 0 0, .int .i64 0] 91))
  have HW : Hid (Below w.heap.size w (w.alloc (.cells #[.int .i64 0, .slice none 0 0, .int .i64 0] 91))) := Lib.hid ((Below.refl _ _).alloc (Nat.le_refl _) _)
  generalize (w.alloc (.cells #[.int .i64 0, .slice none 0 0, .int .i64 0] 91)) = wv at *
  obtain ⟨lB2, cB2, fB2⟩ := B2.out
  go_wp2_with fail
  refine (irSame 2 1 ⟨by decide, by decide⟩ (by decide)).mono ?_
  rintro e w1 ⟨u, rfl, hu, hb1⟩
  obtain ⟨ua, uc, rfl⟩ := hu.ints.form
  simp only [List.length_replicate] at hu ⊢
  have HU := Lib.hid hu
  have HL := Lib.hid lB2
  clear hu
  clear lB2 cB2 fB2
  replace B2 := Lib.hid (B2.out.later hb1)
  replace HW := Lib.hid (HW.out.trans (hb1.mono HW.out.size))
  clear hb1
  obtain ⟨lB2, cB2, fB2⟩ := B2.out
  go_wp2_with fail
  refine (irSame 1 2 ⟨by decide, by decide⟩ (by decide)).mono ?_
  rintro e w2 ⟨u2, rfl, hu2, hb2⟩
  obtain ⟨ua2, uc2, rfl⟩ := hu2.ints.form
  simp only [List.length_replicate] at hu2 ⊢
  have HU2 := Lib.hid hu2
  clear hu2
  replace HU := Lib.hid (HU.out.later hb2)
  clear lB2 cB2 fB2
  replace B2 := Lib.hid (B2.out.later hb2)
  replace HW := Lib.hid (HW.out.trans (hb2.mono HW.out.size))
  clear hb2
  obtain ⟨lB2, cB2, fB2⟩ := B2.out
  have OL : Hid (Own w2 wv.heap.size [w.heap.size] 3 1 (.slice ua 1 uc) 1 [.int .i64 2]) := Lib.hid ⟨HU.out.own, fun g hg hm => by
    have := (HU.out.fresh g hg).1
    have := HL.out
    simp at hm; omega⟩
  have HS := Lib.hid HU.out.own
  have hsz : wv.heap.size ≤ w2.heap.size := by
    rcases HU.out.own.2 with ⟨_, h⟩ | ⟨g, cap, cur, hv, hg, hh, _⟩
    · simp at h
    · have := (Array.getElem?_eq_some_iff.1 hh).1; omega
  have HZ := Lib.hid hsz
  clear hsz
  go_wp2_with (at_builtin; refine wpList_own rfl _ _ 22 3 rfl elInt rfl rfl OL.out HU2.out.ints.1 (oneCell_int _) (by unfold maxLen; simp) (by simp) HZ.out (by intro b hb; simp at hb; omega) ?_; intro v3 w3 hO3 hBs3 hb3; obtain ⟨a3, c3, rfl⟩ := hO3.form; simp only [List.length_replicate] at hO3 ⊢; have HO3 := Lib.hid hO3; have B3 := Lib.hid (hBs3 _ _ (by simp) B2.out); have HW3 := Lib.hid (HW.out.trans (hb3.mono (Nat.le_of_lt HL.out))); clear hO3 hBs3 hb3; obtain ⟨l3, c3', f3⟩ := B3.out; clear lB2 cB2 fB2)
  have HN : Hid (New 3 wv w3 (.slice a3 3 c3) [2, 1, 1]) := Lib.hid ⟨HO3.out.row, by simp, fun x hx => by simp at hx; rcases hx with rfl | rfl | rfl <;> exact ⟨by decide, by decide⟩⟩
  exact bodyPost_ret (v := .tuple #[.agg #[.int .i64 1, .slice a3 3 c3, .int .i64 0], .bool true]) (by simp [results, Try.results64, go_sem, *]) rfl
    ⟨_, rfl, (((HN.out.other _ (.inl HL.out)).other _ (.inl HL.out)).other _ (.inl HL.out)).from (Nat.le_of_lt HL.out), ((HW3.out.setCell (by simp) _).setCell (by simp) _).setCell (by simp) _⟩
set_option maxHeartbeats 3200000 in
theorem shapeNo {w : World} {op : Int} (h : op < 1 ∨ 25 < op) : Calls Try.prog 64 #[.int .i64 op] w (ShpR op w) := by
  have HS := Lib.hid (show shp op = none by unfold shp; repeat (rw [if_neg (by omega)]))
  have e1 : (op == 1) = false := by simp; omega
  have e2 : (op == 2) = false := by simp; omega
  have e13 : (op == 13) = false := by simp; omega
  have e14 : (op == 14) = false := by simp; omega
  have e15 : (op == 15) = false := by simp; omega
  have e16 : (op == 16) = false := by simp; omega
  have e17 : (op == 17) = false := by simp; omega
  have e18 : (op == 18) = false := by simp; omega
  have e19 : (op == 19) = false := by simp; omega
  have e21 : (op == 21) = false := by simp; omega
  have e20 : (op == 20) = false := by simp; omega
  have e22 : (op == 22) = false := by simp; omega
  have e23 : (op == 23) = false := by simp; omega
  have e24 : (op == 24) = false := by simp; omega
  have e25 : (op == 25) = false := by simp; omega
  have r1 : (decide (3 ≤ op) && decide (op ≤ 12)) = false := by simp; omega
  have HR : Hid (decide (3 ≤ op) = false ∨ (decide (3 ≤ op) = true ∧ decide (op ≤ 12) = false)) := Lib.hid (by simp; omega)
  clear h r1
  rcases HR.out with r1 | ⟨r1, r2⟩
  all_goals
    go_enter Try.func64, Try.ntmps64
    go_upto_region 1 with (fail)
    have B2 : Hid (Box (w.alloc (.cells #[.int .i64 0, .slice none 0 0, .int .i64 0] 91)) (w.heap.size) #[.int .i64 0, .slice none 0 0, .int .i64 0]) := Lib.hid (by simpa using (Box.new w #[.int .i64 0, .slice none 0 0, .int .i64 0] 91))
    have HW : Hid (Below w.heap.size w (w.alloc (.cells #[.int .i64 0, .slice none 0 0, .int .i64 0] 91))) := Lib.hid ((Below.refl _ _).alloc (Nat.le_refl _) _)
    generalize (w.alloc (.cells #[.int .i64 0, .slice none 0 0, .int .i64 0] 91)) = wv at *
    obtain ⟨lB2, cB2, fB2⟩ := B2.out
    go_wp2
    exact bodyPost_ret (v := .tuple #[.agg #[.int .i64 0, .slice none 0 0, .int .i64 0], .bool false]) (by simp [results, Try.results64, go_sem, *]) rfl
      ⟨.slice none 0 0, by unfold shp0; rw [HS.out]; rfl, by unfold shp0; rw [HS.out]; exact New.nil, ((HW.out.setCell (by simp) _).setCell (by simp) _).setCell (by simp) _⟩
theorem shapeOf {w : World} (op : Int) : Calls Try.prog 64 #[.int .i64 op] w (ShpR op w) := by
  by_cases h : op < 1 ∨ 25 < op
  · exact shapeNo h
  · obtain rfl | rfl | rfl | rfl | rfl | rfl | rfl | rfl | rfl | rfl | rfl | rfl | rfl | rfl | rfl | rfl | rfl | rfl | rfl | rfl | rfl | rfl | rfl | rfl | rfl : op = 1 ∨ op = 2 ∨ op = 3 ∨ op = 4 ∨ op = 5 ∨ op = 6 ∨ op = 7 ∨ op = 8 ∨ op = 9 ∨ op = 10 ∨ op = 11 ∨ op = 12 ∨ op = 13 ∨ op = 14 ∨ op = 15 ∨ op = 16 ∨ op = 17 ∨ op = 18 ∨ op = 19 ∨ op = 20 ∨ op = 21 ∨ op = 22 ∨ op = 23 ∨ op = 24 ∨ op = 25 := by omega
    · exact shape1
    · exact shape2
    · exact shape3
    · exact shape4
    · exact shape5
    · exact shape6
    · exact shape7
    · exact shape8
    · exact shape9
    · exact shape10
    · exact shape11
    · exact shape12
    · exact shape13
    · exact shape14
    · exact shape15
    · exact shape16
    · exact shape17
    · exact shape18
    · exact shape19
    · exact shape20
    · exact shape21
    · exact shape22
    · exact shape23
    · exact shape24
    · exact shape25
end Go.Proofs.Ytefpmjnimnmniaa
namespace Go.Proofs.Ytefpmjnimnmniaa
set_option linter.unusedSimpArgs false
set_option linter.unusedVariables false
open Go.RowKit
theorem SliceOf.form {α : Type} {R : World → List Value → α → Prop} {size : Nat} {W : World} {v : Value} {xs : List α} (h : SliceOf R size W v xs) : ∃ a c, v = .slice a xs.length c := by
  obtain ⟨cs, h1, _⟩ := h
  obtain ⟨a, c, hv, _⟩ := h1.is
  exact ⟨a, c, hv⟩
structure BlockC (W : World) (b o : Nat) (x : BlockD) (ap ai at_ : Option Addr) (cp ci ct : Nat) : Prop where
  c0 : W.cell? ⟨b, o, none⟩ = some (.slice ap x.phis.length cp)
  c1 : W.cell? ⟨b, o + 1, none⟩ = some (.slice ai x.code.length ci)
  c2 : W.cell? ⟨b, o + 2, none⟩ = some (.int .i64 x.term.op)
  c3 : W.cell? ⟨b, o + 3, none⟩ = some (.int .i64 x.term.val)
  c4 : W.cell? ⟨b, o + 4, none⟩ = some (.slice at_ x.term.to.length ct)
  c5 : W.cell? ⟨b, o + 5, none⟩ = some (.int .i64 x.term.n)
  phis : SliceOf PhiR 4 W (.slice ap x.phis.length cp) x.phis
  code : SliceOf InstrR 4 W (.slice ai x.code.length ci) x.code
  to : Ints W (.slice at_ x.term.to.length ct) x.term.to
  op64 : In64 x.term.op
  val64 : In64 x.term.val
  n64 : In64 x.term.n
structure PhiC (W : World) (b o : Nat) (x : PhiD) (af av : Option Addr) (cf cv : Nat) : Prop where
  c0 : W.cell? ⟨b, o, none⟩ = some (.int .i64 x.id)
  c1 : W.cell? ⟨b, o + 1, none⟩ = some (.int .i64 x.typ)
  c2 : W.cell? ⟨b, o + 2, none⟩ = some (.slice af x.src.length cf)
  c3 : W.cell? ⟨b, o + 3, none⟩ = some (.slice av x.vals.length cv)
  src : Ints W (.slice af x.src.length cf) x.src
  vals : Ints W (.slice av x.vals.length cv) x.vals
  id64 : In64 x.id
  typ64 : In64 x.typ
structure InstrC (W : World) (b o : Nat) (x : InstrD) (aa : Option Addr) (ca : Nat) : Prop where
  c0 : W.cell? ⟨b, o, none⟩ = some (.int .i64 x.op)
  c1 : W.cell? ⟨b, o + 1, none⟩ = some (.int .i64 x.id)
  c2 : W.cell? ⟨b, o + 2, none⟩ = some (.slice aa x.args.length ca)
  c3 : W.cell? ⟨b, o + 3, none⟩ = some (.int .i64 x.n)
  args : Ints W (.slice aa x.args.length ca) x.args
  op64 : In64 x.op
  id64 : In64 x.id
  n64 : In64 x.n
theorem BlockC.below {W W' : World} {b o : Nat} {x : BlockD} {ap ai at_ : Option Addr} {cp ci ct : Nat} (h : BlockC W b o x ap ai at_ cp ci ct) (hb : Below W.heap.size W W') (hl : b < W.heap.size) : BlockC W' b o x ap ai at_ cp ci ct :=
  ⟨(hb.cell hl).trans h.c0, (hb.cell hl).trans h.c1, (hb.cell hl).trans h.c2, (hb.cell hl).trans h.c3, (hb.cell hl).trans h.c4, (hb.cell hl).trans h.c5, h.phis.below PhiR.lasting hb, h.code.below InstrR.lasting hb, h.to.below hb, h.op64, h.val64, h.n64⟩
theorem PhiC.below {W W' : World} {b o : Nat} {x : PhiD} {af av : Option Addr} {cf cv : Nat} (h : PhiC W b o x af av cf cv) (hb : Below W.heap.size W W') (hl : b < W.heap.size) : PhiC W' b o x af av cf cv :=
  ⟨(hb.cell hl).trans h.c0, (hb.cell hl).trans h.c1, (hb.cell hl).trans h.c2, (hb.cell hl).trans h.c3, h.src.below hb, h.vals.below hb, h.id64, h.typ64⟩
theorem InstrC.below {W W' : World} {b o : Nat} {x : InstrD} {aa : Option Addr} {ca : Nat} (h : InstrC W b o x aa ca) (hb : Below W.heap.size W W') (hl : b < W.heap.size) : InstrC W' b o x aa ca :=
  ⟨(hb.cell hl).trans h.c0, (hb.cell hl).trans h.c1, (hb.cell hl).trans h.c2, (hb.cell hl).trans h.c3, h.args.below hb, h.op64, h.id64, h.n64⟩
theorem blocks_parts {W : World} {v : Value} {bs : List BlockD} (h : SliceOf BlockR 6 W v bs) : ∃ a cap b off, v = .slice a bs.length cap ∧ bs.length ≤ cap ∧ cap ≤ 9223372036854775807 ∧ bs.length ≤ 17592186044416 ∧ (0 < bs.length → a = some ⟨b, off, none⟩ ∧ b < W.heap.size) ∧
    ∀ j x, bs[j]? = some x → ∃ ap ai at_ cp ci ct, BlockC W b (off + j * 6) x ap ai at_ cp ci ct := by
  obtain ⟨a, cap, b, off, hv, h1, h2, h3, h4, h5⟩ := h.parts (by omega)
  refine ⟨a, cap, b, off, hv, h1, h2, h3, h4, fun j x hj => ?_⟩
  obtain ⟨ds, ⟨u, c, t, rfl, hp, hc, w, rfl, ht, q1, q2, q3⟩, _, hcell⟩ := h5 j x hj
  obtain ⟨ap, cp, rfl⟩ := hp.form
  obtain ⟨ai, ci, rfl⟩ := hc.form
  obtain ⟨at_, ct, rfl⟩ := ht.form
  exact ⟨ap, ai, at_, cp, ci, ct, hcell 0 _ rfl, hcell 1 _ rfl, hcell 2 _ rfl, hcell 3 _ rfl, hcell 4 _ rfl, hcell 5 _ rfl, hp, hc, ht, q1, q2, q3⟩
theorem phis_parts {W : World} {v : Value} {ps : List PhiD} (h : SliceOf PhiR 4 W v ps) : ∃ a cap b off, v = .slice a ps.length cap ∧ ps.length ≤ cap ∧ cap ≤ 9223372036854775807 ∧ ps.length ≤ 17592186044416 ∧ (0 < ps.length → a = some ⟨b, off, none⟩ ∧ b < W.heap.size) ∧
    ∀ j x, ps[j]? = some x → ∃ af av cf cv, PhiC W b (off + j * 4) x af av cf cv := by
  obtain ⟨a, cap, b, off, hv, h1, h2, h3, h4, h5⟩ := h.parts (by omega)
  refine ⟨a, cap, b, off, hv, h1, h2, h3, h4, fun j x hj => ?_⟩
  obtain ⟨ds, ⟨u, c, rfl, hp, hc, q1, q2⟩, _, hcell⟩ := h5 j x hj
  obtain ⟨af, cf, rfl⟩ := hp.form
  obtain ⟨av, cv, rfl⟩ := hc.form
  exact ⟨af, av, cf, cv, hcell 0 _ rfl, hcell 1 _ rfl, hcell 2 _ rfl, hcell 3 _ rfl, hp, hc, q1, q2⟩
theorem code_parts {W : World} {v : Value} {xs : List InstrD} (h : SliceOf InstrR 4 W v xs) : ∃ a cap b off, v = .slice a xs.length cap ∧ xs.length ≤ cap ∧ cap ≤ 9223372036854775807 ∧ xs.length ≤ 17592186044416 ∧ (0 < xs.length → a = some ⟨b, off, none⟩ ∧ b < W.heap.size) ∧
    ∀ j x, xs[j]? = some x → ∃ aa ca, InstrC W b (off + j * 4) x aa ca := by
  obtain ⟨a, cap, b, off, hv, h1, h2, h3, h4, h5⟩ := h.parts (by omega)
  refine ⟨a, cap, b, off, hv, h1, h2, h3, h4, fun j x hj => ?_⟩
  obtain ⟨ds, ⟨u, rfl, hp, q1, q2, q3⟩, _, hcell⟩ := h5 j x hj
  obtain ⟨aa, ca, rfl⟩ := hp.form
  exact ⟨aa, ca, hcell 0 _ rfl, hcell 1 _ rfl, hcell 2 _ rfl, hcell 3 _ rfl, hp, q1, q2, q3⟩
def phiA (x : PhiD) (af av : Option Addr) (cf cv : Nat) : Array Value := #[.int .i64 x.id, .int .i64 x.typ, .slice af x.src.length cf, .slice av x.vals.length cv]
def instrA (x : InstrD) (aa : Option Addr) (ca : Nat) : Array Value := #[.int .i64 x.op, .int .i64 x.id, .slice aa x.args.length ca, .int .i64 x.n]
def termA (x : TermD) (at_ : Option Addr) (ct : Nat) : Array Value := #[.int .i64 x.op, .int .i64 x.val, .slice at_ x.to.length ct, .int .i64 x.n]
end Go.Proofs.Ytefpmjnimnmniaa
namespace Go.Proofs.Ytefpmjnimnmniaa
set_option linter.unusedSimpArgs false
set_option linter.unusedVariables false
open Go.RowKit
def encT (T : List (Int × Int)) : List (Int × Value) := T.map fun p => (p.1, .int .i64 p.2)
def tyOf (T : List (Int × Int)) (id : Int) : Option Int := (T.find? fun p => p.1 == id).map (·.2)
theorem mget_enc (T : List (Int × Int)) (id : Int) : mget (encT T) id = (tyOf T id).map (Value.int .i64) := by
  unfold mget tyOf encT
  induction T with
  | nil => rfl
  | cons p T ih =>
    simp only [List.map_cons, List.find?_cons]
    cases h : p.1 == id
    · simpa using ih
    · rfl
theorem tyOf_none {T : List (Int × Int)} {id : Int} : tyOf T id = none ↔ id ∉ T.map (·.1) := by
  unfold tyOf
  rw [Option.map_eq_none_iff, List.find?_eq_none]
  simp only [List.mem_map, not_exists, not_and]
  constructor
  · intro h p hp e; exact h p hp (by simp [e])
  · intro h p hp e; exact h p hp (by simpa using e)
theorem mput_enc {T : List (Int × Int)} {id t : Int} (h : tyOf T id = none) : mput (encT T) id (.int .i64 t) = encT (T ++ [(id, t)]) := by
  unfold mput
  rw [mget_enc, h]
  simp [encT]
def defOne (np : Nat) (T : List (Int × Int)) (id t : Int) : Option (List (Int × Int)) := if !(tyOf T id).isSome && !decide (id < np) && decide (id < 1048576) then some (T ++ [(id, t)]) else none
theorem fresh_enc (np : Nat) (T : List (Int × Int)) (id t : Int) : fresh np (encT T) id = (defOne np T id t).isSome := by
  unfold fresh defOne
  rw [mget_enc, Option.isSome_map]
  split <;> rename_i h
  · rw [h]; rfl
  · simpa using h
def numB (nb : Nat) (b : Int) : Bool := decide (0 ≤ b) && decide (b < nb)
def phiOk (nb : Nat) (p : PhiD) : Bool := (p.typ == 1 || p.typ == 2) && (p.src.length == p.vals.length) && p.src.all (numB nb) && decide p.src.Nodup
def topN (ar ce k : Int) : Option Int := if k = 0 then some 0 else if k = 2 then some 1 else if k = 3 then some (ar - 1) else if k = 4 then some (ce - 1) else none
def nOk (ar ce k n : Int) : Bool := match topN ar ce k with | none => true | some l => decide (0 ≤ n) && decide (n ≤ l)
def instrOk (ar ce : Int) (x : InstrD) : Bool := (shp x.op).isSome && (x.args.length == (shp0 x.op).args.length) && nOk ar ce (shp0 x.op).n x.n && ((shp0 x.op).result != 0 || x.id == -1)
def endOk (nb : Nat) (t : TermD) : Bool :=
  t.to.all (fun b => decide (1 ≤ b) && decide (b < (nb : Int))) &&
    ((t.op == 1 && (t.to.length == 1) && t.val == -1 && t.n == 0) || (t.op == 2 && (t.to.length == 2) && t.n == 0) || (t.op == 3 && (t.to.length == 0) && t.n == 0) || (t.op == 4 && (t.to.length == 0) && t.val == -1 && decide (0 ≤ t.n)))
def phiM (np nb : Nat) (T : List (Int × Int)) (p : PhiD) : Option (List (Int × Int)) := if phiOk nb p then defOne np T p.id p.typ else none
def instrM (np : Nat) (ar ce : Int) (T : List (Int × Int)) (x : InstrD) : Option (List (Int × Int)) := if instrOk ar ce x then (if (shp0 x.op).result = 0 then some T else defOne np T x.id (shp0 x.op).result) else none
def blockM (np nb : Nat) (ar ce : Int) (T : List (Int × Int)) (ib : BlockD × Nat) : Option (List (Int × Int)) :=
  if ib.2 = 0 ∧ 0 < ib.1.phis.length then none else
    (ib.1.phis.foldlM (phiM np nb) T).bind fun T => (ib.1.code.foldlM (instrM np ar ce) T).bind fun T => if endOk nb ib.1.term then some T else none
def sizeB (b : BlockD) : Int := b.phis.length + b.code.length + 1
def sizeF (f : FuncD) : Int := (f.blocks.map sizeB).sum
def headOk (f : FuncD) : Bool :=
  decide (f.params.length ≤ 16) && decide (0 ≤ f.arrays) && decide (f.arrays ≤ 8) && decide (0 ≤ f.cells) && decide (f.cells ≤ 64) && decide (1 ≤ f.blocks.length) && decide (f.blocks.length ≤ 512) && decide (sizeF f ≤ 4096)
def parOk (t : Int) : Bool := t == 1 || t == 2
def parT (ps : List Int) : List (Int × Int) := ps.zipIdx.map fun p => ((p.2 : Int), p.1)
def formM (f : FuncD) : Option (List (Int × Int)) :=
  if headOk f && f.params.all parOk then f.blocks.zipIdx.foldlM (blockM f.params.length f.blocks.length f.arrays f.cells) (parT f.params) else none
def defsB (b : BlockD) : List (Int × Int) := b.phis.map (fun p => (p.id, p.typ)) ++ (b.code.filter fun x => (shp0 x.op).result != 0).map fun x => (x.id, (shp0 x.op).result)
def defsF (f : FuncD) : List (Int × Int) := f.blocks.flatMap defsB
def valsF (f : FuncD) : List (Int × Int) := parT f.params ++ defsF f
def blockOk (nb : Nat) (ar ce : Int) (ib : BlockD × Nat) : Bool := !(decide (ib.2 = 0) && decide (0 < ib.1.phis.length)) && ib.1.phis.all (phiOk nb) && ib.1.code.all (instrOk ar ce) && endOk nb ib.1.term
def formB (f : FuncD) : Bool := headOk f && f.params.all parOk && f.blocks.zipIdx.all (blockOk f.blocks.length f.arrays f.cells)
def idsB (np : Nat) (T l : List (Int × Int)) : Bool := decide ((T ++ l).map (·.1)).Nodup && l.all fun p => !decide (p.1 < np) && decide (p.1 < 1048576)
def idsF (f : FuncD) : Bool := idsB f.params.length (parT f.params) (defsF f)
theorem foldM_take {α β : Type} (g : β → α → Option β) (l : List α) (s : β) (j : Nat) (x : α) (h : l[j]? = some x) : (l.take (j + 1)).foldlM g s = ((l.take j).foldlM g s).bind fun t => g t x := by
  rw [List.take_add_one, h, Option.toList_some, List.foldlM_append]
  cases (l.take j).foldlM g s with
  | none => rfl
  | some t => simp only [Option.bind_eq_bind, Option.bind_some, List.foldlM_cons, List.foldlM_nil]; cases g t x <;> rfl
theorem foldM_none {α β : Type} (g : β → α → Option β) (l : List α) (s : β) (j : Nat) (h : (l.take j).foldlM g s = none) : l.foldlM g s = none := by
  have := List.take_append_drop j l
  rw [← this, List.foldlM_append, h]; rfl
theorem defOne_ids (np : Nat) (T : List (Int × Int)) (id t : Int) (hT : (T.map (·.1)).Nodup) : defOne np T id t = if idsB np T [(id, t)] then some (T ++ [(id, t)]) else none := by
  have h : (!(tyOf T id).isSome && !decide (id < np) && decide (id < 1048576)) = idsB np T [(id, t)] := by
    have h1 : (!(tyOf T id).isSome) = decide ((T ++ [(id, t)]).map (·.1)).Nodup := by
      rw [Bool.eq_iff_iff]
      simp only [Bool.not_eq_true', Option.isSome_eq_false_iff, Option.isNone_iff_eq_none, tyOf_none, decide_eq_true_eq, List.map_append, List.map_cons, List.map_nil, List.nodup_append, List.nodup_cons, List.not_mem_nil, not_false_eq_true, List.nodup_nil, and_true, List.mem_singleton]
      constructor
      · intro h; exact ⟨hT, trivial, fun a ha b hb e => h (by rw [← hb, ← e]; exact ha)⟩
      · intro h hm; exact h.2.2 id hm id rfl rfl
    unfold idsB
    rw [h1]
    simp [Bool.and_assoc]
  unfold defOne
  rw [h]
theorem idsB_append (np : Nat) (T l m : List (Int × Int)) : idsB np T (l ++ m) = (idsB np T l && idsB np (T ++ l) m) := by
  unfold idsB
  rw [Bool.eq_iff_iff]
  simp only [Bool.and_eq_true, decide_eq_true_eq, List.all_append, ← List.append_assoc]
  constructor
  · rintro ⟨h1, h2, h3⟩
    exact ⟨⟨by rw [List.map_append] at h1; exact (List.nodup_append.1 h1).1, h2⟩, h1, h3⟩
  · rintro ⟨⟨_, h2⟩, h1, h3⟩
    exact ⟨h1, h2, h3⟩
theorem idsB_nodup {np : Nat} {T l : List (Int × Int)} (h : idsB np T l = true) : ((T ++ l).map (·.1)).Nodup := by
  unfold idsB at h
  simp only [Bool.and_eq_true, decide_eq_true_eq] at h
  exact h.1
theorem foldM_defs {α : Type} (np : Nat) (g : List (Int × Int) → α → Option (List (Int × Int))) (ok : α → Bool) (ds : α → List (Int × Int))
    (hg : ∀ T x, (T.map (·.1)).Nodup → g T x = if ok x && idsB np T (ds x) then some (T ++ ds x) else none) (l : List α) : ∀ T : List (Int × Int), (T.map (·.1)).Nodup →
    l.foldlM g T = if l.all ok && idsB np T (l.flatMap ds) then some (T ++ l.flatMap ds) else none := by
  induction l with
  | nil => intro T hT; simp [idsB, hT]
  | cons x l ih =>
    intro T hT
    rw [List.foldlM_cons, hg T x hT]
    simp only [List.all_cons, List.flatMap_cons, idsB_append]
    cases h1 : ok x
    · simp
    · cases h2 : idsB np T (ds x)
      · simp
      · simp only [Bool.true_and, if_true]
        show (l.foldlM g (T ++ ds x)) = _
        rw [ih _ (idsB_nodup h2), List.append_assoc]
theorem phiM_defs (np nb : Nat) (T : List (Int × Int)) (p : PhiD) (hT : (T.map (·.1)).Nodup) : phiM np nb T p = if phiOk nb p && idsB np T [(p.id, p.typ)] then some (T ++ [(p.id, p.typ)]) else none := by
  unfold phiM
  rw [defOne_ids _ _ _ _ hT]
  cases phiOk nb p <;> simp
def defI (x : InstrD) : List (Int × Int) := if (shp0 x.op).result = 0 then [] else [(x.id, (shp0 x.op).result)]
theorem instrM_defs (np : Nat) (ar ce : Int) (T : List (Int × Int)) (x : InstrD) (hT : (T.map (·.1)).Nodup) : instrM np ar ce T x = if instrOk ar ce x && idsB np T (defI x) then some (T ++ defI x) else none := by
  unfold instrM defI
  cases instrOk ar ce x
  · simp
  · by_cases h : (shp0 x.op).result = 0
    · simp [h, idsB, hT]
    · simp only [if_true, if_neg h, Bool.true_and]; rw [defOne_ids _ _ _ _ hT]
theorem defs_phis (l : List PhiD) : l.flatMap (fun p => [(p.id, p.typ)]) = l.map (fun p => (p.id, p.typ)) := flat_one _ _
theorem defs_code (l : List InstrD) : l.flatMap defI = (l.filter fun x => (shp0 x.op).result != 0).map fun x => (x.id, (shp0 x.op).result) := by
  induction l with
  | nil => rfl
  | cons x l ih =>
    rw [List.flatMap_cons, ih, List.filter_cons]
    unfold defI
    by_cases h : (shp0 x.op).result = 0 <;> simp [h]
theorem blockM_defs (np nb : Nat) (ar ce : Int) (T : List (Int × Int)) (ib : BlockD × Nat) (hT : (T.map (·.1)).Nodup) :
    blockM np nb ar ce T ib = if blockOk nb ar ce ib && idsB np T (defsB ib.1) then some (T ++ defsB ib.1) else none := by
  unfold blockM blockOk defsB
  by_cases h0 : ib.2 = 0 ∧ 0 < ib.1.phis.length
  · simp [h0]
  · rw [if_neg h0]
    have h0' : (!(decide (ib.2 = 0) && decide (0 < ib.1.phis.length))) = true := by
      rw [← Bool.decide_and, decide_eq_false h0]; rfl
    rw [h0', foldM_defs np _ (phiOk nb) (fun p => [(p.id, p.typ)]) (fun T x hT => phiM_defs np nb T x hT) _ _ hT, idsB_append, defs_phis, ← defs_code]
    simp only [Bool.true_and]
    cases h1 : ib.1.phis.all (phiOk nb)
    · simp
    · cases h2 : idsB np T (ib.1.phis.map fun p => (p.id, p.typ))
      · simp
      · simp only [Bool.true_and, if_true, Option.bind_some]
        rw [foldM_defs np _ (instrOk ar ce) defI (fun T x hT => instrM_defs np ar ce T x hT) _ _ (idsB_nodup h2)]
        cases h3 : ib.1.code.all (instrOk ar ce)
        · simp
        · cases h4 : idsB np (T ++ ib.1.phis.map fun p => (p.id, p.typ)) (ib.1.code.flatMap defI)
          · simp
          · simp [List.append_assoc]
theorem parT_keys (ps : List Int) : (parT ps).map (·.1) = (List.range ps.length).map fun i : Nat => (i : Int) := by
  unfold parT
  rw [List.map_map]
  apply List.ext_getElem?
  intro i
  simp [List.getElem?_zipIdx, List.getElem?_range]
  by_cases h : i < ps.length <;> simp [h]
theorem parT_nodup (ps : List Int) : ((parT ps).map (·.1)).Nodup := by
  rw [parT_keys, List.nodup_iff_pairwise_ne, List.pairwise_map]
  exact List.nodup_range.imp fun h e => h (by omega)
theorem zip_flat (f : FuncD) : f.blocks.zipIdx.flatMap (fun ib => defsB ib.1) = defsF f := by
  unfold defsF
  have : f.blocks.zipIdx.flatMap (fun ib => defsB ib.1) = (f.blocks.zipIdx.map (·.1)).flatMap defsB := by rw [List.flatMap_map]
  rw [this, List.zipIdx_map_fst]
theorem formM_is (f : FuncD) : formM f = if formB f && idsF f then some (valsF f) else none := by
  unfold formM formB idsF valsF
  cases h : (headOk f && f.params.all parOk)
  · simp
  · simp only [if_true, Bool.true_and]
    rw [foldM_defs f.params.length _ (blockOk f.blocks.length f.arrays f.cells) (fun ib => defsB ib.1) (fun T x hT => blockM_defs _ _ _ _ T x hT) _ _ (parT_nodup _), zip_flat]
def usesP (p : PhiD) : List (Int × Int) := p.vals.map fun v => (v, p.typ)
def usesI (x : InstrD) : List (Int × Int) := x.args.zip (shp0 x.op).args
def usesT (t : TermD) : List (Int × Int) := if t.op = 2 then [(t.val, 2)] else if t.op = 3 then [(t.val, 0)] else []
def usesB (b : BlockD) : List (Int × Int) := b.phis.flatMap usesP ++ b.code.flatMap usesI ++ usesT b.term
def usesF (f : FuncD) : List (Int × Int) := f.blocks.flatMap usesB
def useE (T : List (Int × Int)) (e : Int) (u : Int × Int) : Int := match tyOf T u.1 with
  | none => 6
  | some t => if u.2 ≠ 0 ∧ t ≠ u.2 ∧ e = 0 then 3 else e
def useOdd (T : List (Int × Int)) (u : Int × Int) : Bool := match tyOf T u.1 with | none => false | some t => u.2 != 0 && t != u.2
def usesE (T us : List (Int × Int)) : Int := if us.any (fun u => !(tyOf T u.1).isSome) then 6 else if us.any (useOdd T) then 3 else 0
theorem usesE_step (T us : List (Int × Int)) (u : Int × Int) : usesE T (us ++ [u]) = useE T (usesE T us) u := by
  unfold usesE useE useOdd
  simp only [List.any_append, List.any_cons, List.any_nil, Bool.or_false]
  cases h : tyOf T u.1 with
  | none => simp
  | some t =>
    simp only [Option.isSome_some, Bool.not_true, Bool.or_false]
    cases h1 : us.any (fun u => !(tyOf T u.1).isSome)
    · cases h2 : us.any (fun u => match tyOf T u.1 with | none => false | some t => u.2 != 0 && t != u.2)
      · by_cases h3 : u.2 = 0 <;> by_cases h4 : t = u.2 <;> simp [h3, h4]
      · simp
    · simp
def checkF (f : FuncD) : Int := if formB f && idsF f then usesE (valsF f) (usesF f) else 2
end Go.Proofs.Ytefpmjnimnmniaa
namespace Go.Proofs.Ytefpmjnimnmniaa
set_option linter.unusedSimpArgs false
set_option linter.unusedVariables false
open Go.RowKit
theorem below_drewN {B : Nat} {a w : World} (h : Below B a w) (n : Nat) : Below B a (w.drewN n) := ⟨h.os, h.tape, h.output, h.size, h.block⟩
theorem sizeB_le {W : World} {v : Value} {bs : List BlockD} (h : SliceOf BlockR 6 W v bs) : ∀ b ∈ bs, 1 ≤ sizeB b ∧ sizeB b ≤ 35184372088833 := by
  intro b hb
  obtain ⟨cs, _, h2⟩ := h
  obtain ⟨j, hj, rfl⟩ := List.getElem_of_mem hb
  obtain ⟨v, u, t, _, h3, h4, _⟩ := h2 j _ (List.getElem?_eq_getElem hj)
  have := h3.le
  have := h4.le
  unfold sizeB; omega
theorem sum_bound (l : List Int) (a b : Int) (h : ∀ x ∈ l, a ≤ x ∧ x ≤ b) : a * l.length ≤ l.sum ∧ l.sum ≤ b * l.length := by
  induction l with
  | nil => simp
  | cons x l ih =>
    have h1 := h x (by simp)
    have h2 := ih fun y hy => h y (by simp [hy])
    simp only [List.sum_cons, List.length_cons, Int.natCast_add, Int.natCast_one, Int.mul_add, Int.mul_one]
    omega
theorem size_bound {W : World} {v : Value} {bs : List BlockD} (h : SliceOf BlockR 6 W v bs) (j : Nat) (hj : j ≤ 512) : 0 ≤ ((bs.take j).map sizeB).sum ∧ ((bs.take j).map sizeB).sum ≤ 18014398509482496 := by
  have h1 := sum_bound ((bs.take j).map sizeB) 1 35184372088833 (fun x hx => by
    obtain ⟨b, hb, rfl⟩ := List.mem_map.1 hx
    exact sizeB_le h b (List.mem_of_mem_take hb))
  rw [List.length_map, List.length_take] at h1
  omega
theorem sum_snoc (bs : List BlockD) (j : Nat) (x : BlockD) (h : bs[j]? = some x) : ((bs.take (j + 1)).map sizeB).sum = ((bs.take j).map sizeB).sum + sizeB x := by
  rw [List.take_add_one, h, Option.toList_some, List.map_append, List.sum_append]; simp
set_option maxHeartbeats 3200000 in
theorem chkSize {w : World} {bc : Nat} {vb : Value} {bs : List BlockD} (h3 : w.cell? ⟨bc, 3, none⟩ = some vb) (hB : SliceOf BlockR 6 w vb bs) (hn : bs.length ≤ 512) :
    Calls Try.prog 86 #[.pointer (some ⟨bc, 0, none⟩)] w fun e w' => e = .returned (.int .i64 ((bs.map sizeB).sum)) ∧ Below w.heap.size w w' := by
  have HSZ := Lib.hid hB
  obtain ⟨a, cap, b, off, rfl, hc, hm, hl, ha, hx⟩ := blocks_parts hB
  have HA := Lib.hid ha
  have HX := Lib.hid hx
  clear ha hx hB hl
  obtain ⟨n, hnn⟩ : ∃ n, n = bs.length := ⟨_, rfl⟩
  rw [← hnn] at h3 hc hn HA
  have HN := Lib.hid hnn
  clear hnn
  go_enter Try.func86, Try.ntmps86
  go_wp2
  go_loopw [3, 12] (fun s i wr => ∃ j : Nat, j ≤ n ∧ i = .int .i64 j ∧ s = .int .i64 ((bs.take j).map sizeB).sum ∧ Below w.heap.size w wr) (fun _ i _ => n - (intOf i).toNat)
  case atStart => exact ⟨0, Nat.zero_le _, rfl, rfl, Below.refl _ _⟩
  case round =>
    obtain ⟨j, hj, rfl, rfl, hW⟩ := hrel
    have HW := Lib.hid hW
    clear hW
    by_cases hlt : j < n
    · have hne : 0 < n := by omega
      obtain ⟨rfl, hbw⟩ := HA.out hne
      have hjx : bs[j]? = some bs[j] := List.getElem?_eq_getElem (by have := HN.out; omega)
      obtain ⟨x, hxe⟩ : ∃ x, x = bs[j]'(by have := HN.out; omega) := ⟨_, rfl⟩
      rw [← hxe] at hjx
      clear hxe
      obtain ⟨ap, ai, at_, cp, ci, ct, hC⟩ := HX.out j x hjx
      obtain ⟨c0, c1, c2, c3, c4, c5, h6, h7, h8, h9, h10, h11⟩ := hC.below HW.out hbw
      have hs0 := size_bound HSZ.out j (by omega)
      have hl1 := h6.le
      have hl2 := h7.le
      have HSN := Lib.hid (sum_snoc bs j x hjx)
      have hsx : sizeB x = x.phis.length + x.code.length + 1 := rfl
      rw [hsx] at HSN
      clear h6 h7 h8 h9 h10 h11 hC hjx hsx
      generalize ((bs.take j).map sizeB).sum = s at *
      go_wp2
      go_roundw
      case rel => exact ⟨j + 1, hlt, by go_num, by rw [HSN.out], HW.out.alloc HW.out.size _⟩
      case measure => simp [intOf]; omega
    · obtain rfl : j = n := by omega
      go_wp2
      go_ret
      rw [List.take_of_length_le (by have := HN.out; omega)]
      exact ⟨rfl, HW.out⟩
end Go.Proofs.Ytefpmjnimnmniaa
