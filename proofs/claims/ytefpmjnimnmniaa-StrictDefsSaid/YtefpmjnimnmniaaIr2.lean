/- What a walk wants of blocks, phis and instructions in memory: each cell. -/
import Derived.Test.YtefpmjnimnmniaaIr
namespace Go.Proofs.Ytefpmjnimnmniaa
set_option linter.unusedSimpArgs false
set_option linter.unusedVariables false
open Go.RowKit

theorem SliceOf.form {α : Type} {R : World → List Value → α → Prop} {size : Nat} {W : World} {v : Value} {xs : List α} (h : SliceOf R size W v xs) : ∃ a c, v = .slice a xs.length c := by
  obtain ⟨cs, h1, _⟩ := h
  obtain ⟨a, c, hv, _⟩ := h1.is
  exact ⟨a, c, hv⟩

/-- The six cells of a block. -/
structure BlockC (W : World) (b o : Nat) (x : BlockD) (ap ai at_ : Option Addr) (cp ci ct : Nat) : Prop where
  c0 : W.cell? ⟨b, o, none⟩ = some (.slice ap x.phis.length cp)
  c1 : W.cell? ⟨b, o + 1, none⟩ = some (.slice ai x.code.length ci)
  c2 : W.cell? ⟨b, o + 2, none⟩ = some (.int .i64 x.term.op)
  c3 : W.cell? ⟨b, o + 3, none⟩ = some (.int .i64 x.term.val)
  c4 : W.cell? ⟨b, o + 4, none⟩ = some (.slice at_ x.term.to.length ct)
  c5 : W.cell? ⟨b, o + 5, none⟩ = some (.int .i64 x.term.n)
  phis : SliceOf PhiR 4 W (.slice ap x.phis.length cp) x.phis
  code : SliceOf InstrR 4 W (.slice ai x.code.length ci) x.code
  to : Ints W (.slice at_ x.term.to.length ct) x.term.to
  op64 : In64 x.term.op
  val64 : In64 x.term.val
  n64 : In64 x.term.n
structure PhiC (W : World) (b o : Nat) (x : PhiD) (af av : Option Addr) (cf cv : Nat) : Prop where
  c0 : W.cell? ⟨b, o, none⟩ = some (.int .i64 x.id)
  c1 : W.cell? ⟨b, o + 1, none⟩ = some (.int .i64 x.typ)
  c2 : W.cell? ⟨b, o + 2, none⟩ = some (.slice af x.src.length cf)
  c3 : W.cell? ⟨b, o + 3, none⟩ = some (.slice av x.vals.length cv)
  src : Ints W (.slice af x.src.length cf) x.src
  vals : Ints W (.slice av x.vals.length cv) x.vals
  id64 : In64 x.id
  typ64 : In64 x.typ
structure InstrC (W : World) (b o : Nat) (x : InstrD) (aa : Option Addr) (ca : Nat) : Prop where
  c0 : W.cell? ⟨b, o, none⟩ = some (.int .i64 x.op)
  c1 : W.cell? ⟨b, o + 1, none⟩ = some (.int .i64 x.id)
  c2 : W.cell? ⟨b, o + 2, none⟩ = some (.slice aa x.args.length ca)
  c3 : W.cell? ⟨b, o + 3, none⟩ = some (.int .i64 x.n)
  args : Ints W (.slice aa x.args.length ca) x.args
  op64 : In64 x.op
  id64 : In64 x.id
  n64 : In64 x.n

theorem BlockC.below {W W' : World} {b o : Nat} {x : BlockD} {ap ai at_ : Option Addr} {cp ci ct : Nat} (h : BlockC W b o x ap ai at_ cp ci ct) (hb : Below W.heap.size W W') (hl : b < W.heap.size) : BlockC W' b o x ap ai at_ cp ci ct :=
  ⟨(hb.cell hl).trans h.c0, (hb.cell hl).trans h.c1, (hb.cell hl).trans h.c2, (hb.cell hl).trans h.c3, (hb.cell hl).trans h.c4, (hb.cell hl).trans h.c5, h.phis.below PhiR.lasting hb, h.code.below InstrR.lasting hb, h.to.below hb, h.op64, h.val64, h.n64⟩
theorem PhiC.below {W W' : World} {b o : Nat} {x : PhiD} {af av : Option Addr} {cf cv : Nat} (h : PhiC W b o x af av cf cv) (hb : Below W.heap.size W W') (hl : b < W.heap.size) : PhiC W' b o x af av cf cv :=
  ⟨(hb.cell hl).trans h.c0, (hb.cell hl).trans h.c1, (hb.cell hl).trans h.c2, (hb.cell hl).trans h.c3, h.src.below hb, h.vals.below hb, h.id64, h.typ64⟩
theorem InstrC.below {W W' : World} {b o : Nat} {x : InstrD} {aa : Option Addr} {ca : Nat} (h : InstrC W b o x aa ca) (hb : Below W.heap.size W W') (hl : b < W.heap.size) : InstrC W' b o x aa ca :=
  ⟨(hb.cell hl).trans h.c0, (hb.cell hl).trans h.c1, (hb.cell hl).trans h.c2, (hb.cell hl).trans h.c3, h.args.below hb, h.op64, h.id64, h.n64⟩

theorem blocks_parts {W : World} {v : Value} {bs : List BlockD} (h : SliceOf BlockR 6 W v bs) : ∃ a cap b off, v = .slice a bs.length cap ∧ bs.length ≤ cap ∧ cap ≤ 9223372036854775807 ∧ bs.length ≤ 17592186044416 ∧ (0 < bs.length → a = some ⟨b, off, none⟩ ∧ b < W.heap.size) ∧
    ∀ j x, bs[j]? = some x → ∃ ap ai at_ cp ci ct, BlockC W b (off + j * 6) x ap ai at_ cp ci ct := by
  obtain ⟨a, cap, b, off, hv, h1, h2, h3, h4, h5⟩ := h.parts (by omega)
  refine ⟨a, cap, b, off, hv, h1, h2, h3, h4, fun j x hj => ?_⟩
  obtain ⟨ds, ⟨u, c, t, rfl, hp, hc, w, rfl, ht, q1, q2, q3⟩, _, hcell⟩ := h5 j x hj
  obtain ⟨ap, cp, rfl⟩ := hp.form
  obtain ⟨ai, ci, rfl⟩ := hc.form
  obtain ⟨at_, ct, rfl⟩ := ht.form
  exact ⟨ap, ai, at_, cp, ci, ct, hcell 0 _ rfl, hcell 1 _ rfl, hcell 2 _ rfl, hcell 3 _ rfl, hcell 4 _ rfl, hcell 5 _ rfl, hp, hc, ht, q1, q2, q3⟩
theorem phis_parts {W : World} {v : Value} {ps : List PhiD} (h : SliceOf PhiR 4 W v ps) : ∃ a cap b off, v = .slice a ps.length cap ∧ ps.length ≤ cap ∧ cap ≤ 9223372036854775807 ∧ ps.length ≤ 17592186044416 ∧ (0 < ps.length → a = some ⟨b, off, none⟩ ∧ b < W.heap.size) ∧
    ∀ j x, ps[j]? = some x → ∃ af av cf cv, PhiC W b (off + j * 4) x af av cf cv := by
  obtain ⟨a, cap, b, off, hv, h1, h2, h3, h4, h5⟩ := h.parts (by omega)
  refine ⟨a, cap, b, off, hv, h1, h2, h3, h4, fun j x hj => ?_⟩
  obtain ⟨ds, ⟨u, c, rfl, hp, hc, q1, q2⟩, _, hcell⟩ := h5 j x hj
  obtain ⟨af, cf, rfl⟩ := hp.form
  obtain ⟨av, cv, rfl⟩ := hc.form
  exact ⟨af, av, cf, cv, hcell 0 _ rfl, hcell 1 _ rfl, hcell 2 _ rfl, hcell 3 _ rfl, hp, hc, q1, q2⟩
theorem code_parts {W : World} {v : Value} {xs : List InstrD} (h : SliceOf InstrR 4 W v xs) : ∃ a cap b off, v = .slice a xs.length cap ∧ xs.length ≤ cap ∧ cap ≤ 9223372036854775807 ∧ xs.length ≤ 17592186044416 ∧ (0 < xs.length → a = some ⟨b, off, none⟩ ∧ b < W.heap.size) ∧
    ∀ j x, xs[j]? = some x → ∃ aa ca, InstrC W b (off + j * 4) x aa ca := by
  obtain ⟨a, cap, b, off, hv, h1, h2, h3, h4, h5⟩ := h.parts (by omega)
  refine ⟨a, cap, b, off, hv, h1, h2, h3, h4, fun j x hj => ?_⟩
  obtain ⟨ds, ⟨u, rfl, hp, q1, q2, q3⟩, _, hcell⟩ := h5 j x hj
  obtain ⟨aa, ca, rfl⟩ := hp.form
  exact ⟨aa, ca, hcell 0 _ rfl, hcell 1 _ rfl, hcell 2 _ rfl, hcell 3 _ rfl, hp, q1, q2, q3⟩

/-- A block's, phi's, instruction's, end's value. -/
def blockA (x : BlockD) (ap ai at_ : Option Addr) (cp ci ct : Nat) : Array Value := #[.slice ap x.phis.length cp, .slice ai x.code.length ci, .int .i64 x.term.op, .int .i64 x.term.val, .slice at_ x.term.to.length ct, .int .i64 x.term.n]
def phiA (x : PhiD) (af av : Option Addr) (cf cv : Nat) : Array Value := #[.int .i64 x.id, .int .i64 x.typ, .slice af x.src.length cf, .slice av x.vals.length cv]
def instrA (x : InstrD) (aa : Option Addr) (ca : Nat) : Array Value := #[.int .i64 x.op, .int .i64 x.id, .slice aa x.args.length ca, .int .i64 x.n]
def termA (x : TermD) (at_ : Option Addr) (ct : Nat) : Array Value := #[.int .i64 x.op, .int .i64 x.val, .slice at_ x.to.length ct, .int .i64 x.n]
end Go.Proofs.Ytefpmjnimnmniaa
