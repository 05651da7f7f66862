/- What all later walks share, beside XLib: boxes of the call's own; what is below stays; a region that draws its order (XGrow). -/
import Derived.Test.YtefpmjnimnmniaaLib
import Derived.Test.YtefpmjnimnmniaaGrow
import Derived.Deep.Cut
namespace Go.Proofs.Ytefpmjnimnmniaa
set_option linter.unusedSimpArgs false
set_option linter.unusedVariables false
open Go.RowKit

theorem bcell {W w1 : World} (hb : Below W.heap.size W w1) : (∀ b o, b < W.heap.size → w1.cell? ⟨b, o, none⟩ = W.cell? ⟨b, o, none⟩) ∧ (∀ b o, b < W.heap.size → w1.frozen? ⟨b, o, none⟩ = W.frozen? ⟨b, o, none⟩) :=
  ⟨fun b o h => hb.cell (p := ⟨b, o, none⟩) h, fun b o h => hb.frozen (p := ⟨b, o, none⟩) h⟩

theorem same_below {P : Program} {f : FuncId} {args : Array Value} {w : World} {r : Ending} (h : Calls P f args w fun e w' => e = r ∧ w' = w) : Calls P f args w fun e w' => e = r ∧ Below w.heap.size w w' :=
  h.mono fun e w' ⟨he, hw⟩ => ⟨he, hw ▸ Below.refl _ _⟩

theorem Box.drewN {W : World} {b : Nat} {A : Array Value} (h : Box W b A) (n : Nat) : Box (W.drewN n) b A := h.later ⟨rfl, rfl, rfl, Nat.le_refl _, fun _ _ => rfl⟩
theorem Blk.later {w w' : World} {B : Nat} {e : TypeId} {xs : List Value} (h : Blk w B e xs) (hb : Below w.heap.size w w') : Blk w' B e xs := h.below hb h.lt
/-- Lists of numbers in memory that the call made (T: the numbers' type). -/
structure New (T : TypeId) (w w' : World) (u : Value) (xs : List Int) : Prop where
  own : w'.ownsRow w.heap.size T 1 u xs.length (xs.map (.int .i64))
  le : xs.length ≤ 17592186044416
  all : ∀ x ∈ xs, In64 x
theorem New.ints {T : TypeId} {w w' : World} {u : Value} {xs : List Int} (h : New T w w' u xs) : Ints w' u xs := Ints.of_own h.own h.le h.all
theorem New.fresh {T : TypeId} {w w' : World} {u : Value} {xs : List Int} (h : New T w w' u xs) (g : Nat) (hg : u.ownBlock = some g) : w.heap.size ≤ g ∧ g < w'.heap.size := by
  rcases h.own.2 with ⟨rfl, _⟩ | ⟨g', cap, cur, rfl, hb, hh, _⟩
  · cases hg
  · cases hg; exact ⟨hb, (Array.getElem?_eq_some_iff.1 hh).1⟩
theorem New.nil {T : TypeId} {w w' : World} : New T w w' (.slice none 0 0) [] := ⟨⟨rfl, .inl ⟨rfl, rfl⟩⟩, by simp, by simp⟩
theorem New.keep {T : TypeId} {w w1 w2 : World} {u : Value} {xs : List Int} (h : New T w w1 u xs) (hk : ∀ g, u.ownBlock = some g → w2.heap[g]? = w1.heap[g]?) : New T w w2 u xs := by
  refine ⟨⟨h.own.1, ?_⟩, h.le, h.all⟩
  rcases h.own.2 with h2 | ⟨g, cap, cur, hv, hb, hh, r⟩
  · exact .inl h2
  · exact .inr ⟨g, cap, cur, hv, hb, by rw [hk g (by rw [hv]; rfl)]; exact hh, r⟩
theorem New.later {T : TypeId} {w w1 w2 : World} {u : Value} {xs : List Int} (h : New T w w1 u xs) (hb : Below w1.heap.size w1 w2) : New T w w2 u xs := h.keep fun g hg => hb.block g (h.fresh g hg).2
theorem New.other {T : TypeId} {w w1 : World} {u : Value} {xs : List Int} (h : New T w w1 u xs) {p : Addr} (v : Value) (hp : p.block < w.heap.size ∨ w1.heap.size ≤ p.block) : New T w (w1.setCell p v) u xs :=
  h.keep fun g hg => Below.heap_setCell w1 p v g (fun e => by have := h.fresh g hg; omega)
theorem New.from {T : TypeId} {w0 w w' : World} {u : Value} {xs : List Int} (h : New T w w' u xs) (hs : w0.heap.size ≤ w.heap.size) : New T w0 w' u xs := by
  refine ⟨⟨h.own.1, ?_⟩, h.le, h.all⟩
  rcases h.own.2 with h2 | ⟨g, cap, cur, hv, hb, r⟩
  · exact .inl h2
  · exact .inr ⟨g, cap, cur, hv, by omega, r⟩
theorem Row.other {W : World} {v : Value} {n size : Nat} {cs : List Value} (h : Row W v n size cs) {p : Addr} (u : Value) (hp : ∀ g, v.ownBlock = some g → g ≠ p.block) : Row (W.setCell p u) v n size cs := by
  obtain ⟨hl, hbig, a, cap, rfl, hnc, hcm, hnone, hc⟩ := h
  refine ⟨hl, hbig, a, cap, rfl, hnc, hcm, hnone, fun ad ha j x hj => ?_⟩
  have h1 := hc ad ha j x hj
  have hne : (ad.add j).block ≠ p.block := by rw [add_block]; exact hp _ (by rw [ha]; rfl)
  have hh := Below.heap_setCell W p u (ad.add j).block hne
  rw [World.cell?_of_block (w := W) (a := ad.add j) hh]; exact h1
theorem Ints.other {W : World} {v : Value} {xs : List Int} (h : Ints W v xs) {p : Addr} (u : Value) (hp : ∀ g, v.ownBlock = some g → g ≠ p.block) : Ints (W.setCell p u) v xs := ⟨h.1.other u hp, h.2⟩
end Go.Proofs.Ytefpmjnimnmniaa
