/- What the claim needs, part 33. -/
import Derived.Test.YtefpmjnimnmniaaH32
namespace Go.Proofs.Ytefpmjnimnmniaa
set_option linter.unusedSimpArgs false
set_option linter.unusedVariables false
open Go.RowKit
theorem ent_range {f : FuncD} (hn : 1 ≤ f.blocks.length) {e : Int × Int × Int} (he : e ∈ entF f) : 0 ≤ e.2.1 ∧ e.2.1 < (f.blocks.length : Int) := by
  unfold entF at he
  rcases List.mem_append.1 he with he | he
  · unfold parN at he
    rw [List.mem_map] at he
    obtain ⟨j, _, rfl⟩ := he
    exact ⟨by show (0 : Int) ≤ 0; omega, by show (0 : Int) < _; omega⟩
  · unfold blkN at he
    rw [List.mem_flatMap] at he
    obtain ⟨⟨x, c⟩, hx, he⟩ := he
    rw [List.take_length, List.mem_zipIdx_iff_getElem?] at hx
    have hc : c < f.blocks.length := (List.getElem?_eq_some_iff.1 hx).1
    unfold entB at he
    have hd : e.2.1 = (c : Int) := by
      rcases List.mem_append.1 he with he | he
      · unfold phiN at he
        rw [List.mem_map] at he
        obtain ⟨p, _, rfl⟩ := he
        rfl
      · unfold codN at he
        rw [List.mem_filterMap] at he
        obtain ⟨y, _, hy⟩ := he
        split at hy
        · cases hy; rfl
        · cases hy
    rw [hd]
    omega
theorem used_def {f : FuncD} (hc : checkF f = 0) {u : UseD} (hu : u ∈ uxF f) : ∃ d k, ((entF f).find? fun e => e.1 == u.id) = some (u.id, d, k) ∧ 0 ≤ d ∧ d < (f.blocks.length : Int) := by
  obtain ⟨h1, h2⟩ := check_fine hc
  have hev := even_of h1
  have hp : u.pair ∈ usesF f := by rw [← ux_pairs hev]; exact List.mem_map.2 ⟨u, hu, rfl⟩
  have h3 : usesE (valsF f) (usesF f) = 0 := by
    unfold checkF at hc
    rw [if_pos (by rw [h1, h2]; rfl)] at hc
    exact hc
  have h4 : (usesF f).any (fun u => !(tyOf (valsF f) u.1).isSome) = false := by
    unfold usesE at h3
    cases h : (usesF f).any (fun u => !(tyOf (valsF f) u.1).isSome) with
    | false => rfl
    | true => rw [h, if_pos rfl] at h3; omega
  rw [List.any_eq_false] at h4
  have h5 := h4 u.pair hp
  have h6 : u.id ∈ (entF f).map (·.1) := by
    rw [ent_keys hc]
    refine Classical.byContradiction fun h => ?_
    have h7 := tyOf_none.2 h
    have h8 : u.pair.1 = u.id := rfl
    rw [h8, h7] at h5
    exact h5 rfl
  obtain ⟨e, he, hid⟩ := List.mem_map.1 h6
  cases hf : ((entF f).find? fun e => e.1 == u.id) with
  | none =>
    rw [List.find?_eq_none] at hf
    exact absurd (by simp [hid]) (hf e he)
  | some e2 =>
    have h9 := List.find?_some hf
    have h10 := List.mem_of_find?_eq_some hf
    simp only [beq_iff_eq] at h9
    obtain ⟨r1, r2⟩ := ent_range (formB_nb h1).1 h10
    obtain ⟨i, d, k⟩ := e2
    simp only at h9
    subst h9
    exact ⟨d, k, rfl, r1, r2⟩
theorem use_range {f : FuncD} (h : formB f = true) {u : UseD} (hu : u ∈ uxF f) : 0 ≤ u.blk ∧ u.blk < (f.blocks.length : Int) ∧ (u.pos < 0 → 0 ≤ u.src ∧ u.src < (f.blocks.length : Int)) := by
  unfold uxF at hu
  rw [List.mem_flatMap] at hu
  obtain ⟨⟨x, c⟩, hx, hu⟩ := hu
  have hx2 := hx
  rw [List.mem_zipIdx_iff_getElem?] at hx
  have hc : c < f.blocks.length := (List.getElem?_eq_some_iff.1 hx).1
  unfold formB at h
  simp only [Bool.and_eq_true, List.all_eq_true] at h
  have hok := h.2 (x, c) hx2
  unfold blockOk at hok
  simp only [Bool.and_eq_true, List.all_eq_true] at hok
  unfold uxB at hu
  rw [List.append_assoc] at hu
  rcases List.mem_append.1 hu with hu | hu
  · rw [List.mem_flatMap] at hu
    obtain ⟨p, hp, hu⟩ := hu
    have hpk := hok.1.1.2 p hp
    unfold phiOk at hpk
    simp only [Bool.and_eq_true, List.all_eq_true] at hpk
    unfold uxP at hu
    rw [List.mem_map] at hu
    obtain ⟨vs, hvs, rfl⟩ := hu
    have hs := List.of_mem_zip hvs
    have hn := hpk.1.2 vs.2 hs.2
    unfold numB at hn
    simp at hn
    exact ⟨by show (0 : Int) ≤ (c : Int); omega, by show (c : Int) < _; omega, fun _ => hn⟩
  · rcases List.mem_append.1 hu with hu | hu
    · rw [List.mem_flatMap] at hu
      obtain ⟨yk, hy, hu⟩ := hu
      unfold uxI at hu
      rw [List.mem_map] at hu
      obtain ⟨a, ha, rfl⟩ := hu
      exact ⟨by show (0 : Int) ≤ (c : Int); omega, by show (c : Int) < _; omega, fun h => by exfalso; have h : ((yk.2 : Nat) : Int) < 0 := h; omega⟩
    · unfold uxT at hu
      split at hu
      · simp at hu
        subst hu
        exact ⟨by show (0 : Int) ≤ (c : Int); omega, by show (c : Int) < _; omega, fun h => by exfalso; have h : ((x.code.length : Nat) : Int) < 0 := h; omega⟩
      · split at hu
        · simp at hu
          subst hu
          exact ⟨by show (0 : Int) ≤ (c : Int); omega, by show (c : Int) < _; omega, fun h => by exfalso; have h : ((x.code.length : Nat) : Int) < 0 := h; omega⟩
        · simp at hu
def UseOk (f : FuncD) (u : UseD) : Prop := ∃ d k, ((entF f).find? fun e => e.1 == u.id) = some (u.id, d, k) ∧
  ((u.pos < 0 ∧ OverP f d.toNat u.src.toNat) ∨ (¬ u.pos < 0 ∧ AheadP f d k u.blk u.pos))
def FaultR (f : FuncD) (b e : Int) : Prop :=
  (∃ c : Nat, c < f.blocks.length ∧ ¬ Way (toB f) (-1) c ∧ (∀ d, d < c → Way (toB f) (-1) d) ∧ b = c ∧ e = 4) ∨
  ((∀ d, d < f.blocks.length → Way (toB f) (-1) d) ∧
    ((∃ (c : Nat) (x : BlockD), f.blocks[c]? = some x ∧ x.phis.all (phiFits (natI (predN f f.blocks.length 0 c))) = false ∧ (∀ (d : Nat) (y : BlockD), d < c → f.blocks[d]? = some y → y.phis.all (phiFits (natI (predN f f.blocks.length 0 d))) = true) ∧ b = c ∧ e = 5) ∨
     ((∀ (d : Nat) (y : BlockD), f.blocks[d]? = some y → y.phis.all (phiFits (natI (predN f f.blocks.length 0 d))) = true) ∧
      ((∃ (i : Nat) (u : UseD), (uxF f)[i]? = some u ∧ ¬ UseOk f u ∧ (∀ v ∈ (uxF f).take i, UseOk f v) ∧ b = u.blk ∧ e = 6) ∨
       ((∀ v ∈ uxF f, UseOk f v) ∧ b = 0 ∧ e = 0)))))
end Go.Proofs.Ytefpmjnimnmniaa
namespace Go.Proofs.Ytefpmjnimnmniaa
set_option linter.unusedSimpArgs false
set_option linter.unusedVariables false
open Go.RowKit
theorem usesCEnters : Enters Try.prog 129 := enters_of Try.func129 (by kernel_rfl) rfl
def NotAheadR (f : FuncD) (d k b at_ : Int) (w : World) (e : Ending) (w' : World) : Prop := ∃ r : Bool, e = .returned (.bool r) ∧ (r = true ↔ ¬ AheadP f d k b at_) ∧ Below w.heap.size w w'
set_option maxHeartbeats 3200000 in
theorem usesC {f : FuncD} {w : World} {bs bt bg lg lcap bm : Nat} {g : Array Value} {pv ov lv A2 : Value} {O : List Nat} {I : Nat → Option Nat} (hS : StrM f w bs bt bg lg lcap bm g pv ov lv A2 O I) (hO : IsOrder f O) (hD : DomI f O I) (hc : checkF f = 0)
    {id d k b at_ : Int} {b1 b2 b3 : Nat} (he : ((entF f).find? fun e => e.1 == id) = some (id, d, k)) (hd : 0 ≤ d ∧ d < (f.blocks.length : Int)) (hb : 0 ≤ b ∧ b < (f.blocks.length : Int))
    (h1 : Box w b1 #[.pointer (some ⟨bs, 0, none⟩)]) (h2 : Box w b2 #[.int .i64 b]) (h3 : Box w b3 #[.int .i64 at_]) :
    Calls Try.prog 129 #[.int .i64 id, .pointer (some ⟨b1, 0, none⟩), .pointer (some ⟨b2, 0, none⟩), .pointer (some ⟨b3, 0, none⟩)] w (NotAheadR f d k b at_ w) := by
  have HA := Lib.hid (ahead hS hO hD hc (at_ := at_) he hd hb)
  obtain ⟨l1, c1, f1⟩ := h1
  obtain ⟨l2, c2, f2⟩ := h2
  obtain ⟨l3, c3, f3⟩ := h3
  clear hS hO hD hc he hd hb
  go_enter Try.func129, Try.ntmps129
  go_wp2_with fail
  refine HA.out.mono ?_
  rintro e w2 ⟨r, rfl, hr, hb⟩
  have HR := Lib.hid hr
  have HB := Lib.hid hb
  clear hr hb
  cases r
  · go_wp2
    go_ret
    exact ⟨true, rfl, ⟨(fun _ h => by have := HR.out.2 h; simp at this), (fun _ => rfl)⟩, HB.out⟩
  · go_wp2
    go_ret
    exact ⟨false, rfl, ⟨(fun h => by cases h), (fun h => absurd (HR.out.1 (by trivial)) h)⟩, HB.out⟩
end Go.Proofs.Ytefpmjnimnmniaa
