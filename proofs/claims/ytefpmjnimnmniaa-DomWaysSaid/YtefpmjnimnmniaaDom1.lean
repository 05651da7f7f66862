/- dom: a tree in memory; the meeting of two. -/
import Derived.Test.YtefpmjnimnmniaaGC
import Derived.Test.YtefpmjnimnmniaaDomT
namespace Go.Proofs.Ytefpmjnimnmniaa
set_option linter.unusedSimpArgs false
set_option linter.unusedVariables false
open Go.RowKit

theorem IsOrder.placed {f : FuncD} {O : List Nat} (h : IsOrder f O) : Placed (toB f) (fun b => O.idxOf b) := by
  obtain ⟨h1, h2, h3, h4, h5⟩ := h.facts
  have at_ : ∀ {b : Nat}, Way (toB f) (-1) b → O[O.idxOf b]? = some b := fun {b} hb => by
    have hm := (h2 b).2 hb
    have hl := List.idxOf_lt_length_of_mem hm
    rw [List.getElem?_eq_getElem hl, List.getElem_idxOf hl]
  refine ⟨idxOf_at h1 h4, fun {a b} ha hb e => ?_, fun {b} hb hb0 => ?_⟩
  · have e1 := at_ ha
    have e2 := at_ hb
    have e : O.idxOf a = O.idxOf b := e
    rw [e, e2] at e1
    cases e1; rfl
  · obtain ⟨j, p, hj, hp, hbp⟩ := h5 _ b (at_ hb) hb0
    exact ⟨p, (h2 p).1 (List.mem_of_getElem? hp), hbp, by show O.idxOf p < O.idxOf b; rw [idxOf_at h1 hp]; exact hj⟩
/-- A tree as numbers. -/
def encI (n : Nat) (I : Nat → Option Nat) : List Int := (List.range n).map fun b => match I b with | none => -1 | some p => (p : Int)
theorem encI_len (n : Nat) (I : Nat → Option Nat) : (encI n I).length = n := by simp [encI]
theorem encI_at {n b : Nat} {I : Nat → Option Nat} (h : b < n) : (encI n I)[b]? = some (match I b with | none => -1 | some p => (p : Int)) := by simp [encI, h]
theorem encI_some {n b p : Nat} {I : Nat → Option Nat} (h : b < n) (hp : I b = some p) : (encI n I)[b]? = some (p : Int) := by rw [encI_at h, hp]
theorem encI_none {n b : Nat} {I : Nat → Option Nat} (h : b < n) (hp : I b = none) : (encI n I)[b]? = some (-1) := by rw [encI_at h, hp]
theorem encI_set {n b m : Nat} {I : Nat → Option Nat} (h : b < n) : (encI n I).set b (m : Int) = encI n (upd' I b m) := by
  apply List.ext_getElem?
  intro t
  rw [List.getElem?_set, encI_len]
  by_cases ht : t < n
  · rw [encI_at ht, encI_at ht]
    by_cases e : b = t
    · subst e; rw [if_pos rfl, if_pos h, upd_at]
    · rw [if_neg e, upd_ne I m (Ne.symm e)]
  · rw [List.getElem?_eq_none (by rw [encI_len]; omega), List.getElem?_eq_none (by rw [encI_len]; omega)]
    split <;> simp_all
theorem encI_start (n : Nat) : encI n (fun _ => none) = List.replicate n (-1) := by
  apply List.ext_getElem?
  intro t
  by_cases ht : t < n
  · rw [encI_at ht]; simp [ht]
  · rw [List.getElem?_eq_none (by rw [encI_len]; omega), List.getElem?_eq_none (by simp; omega)]
theorem placeI_at {n b : Nat} {O : List Nat} (h : b < n) : (placeI n O O.length)[b]? = some (if b ∈ O then ((O.idxOf b : Nat) : Int) else -1) := by
  unfold placeI; rw [List.take_length]; simp [h]
theorem placeI_in {n b : Nat} {O : List Nat} (h : b < n) (hb : b ∈ O) : (placeI n O O.length)[b]? = some ((O.idxOf b : Nat) : Int) := by rw [placeI_at h, if_pos hb]
theorem placeI_no {n b : Nat} {O : List Nat} (h : b < n) (hb : b ∉ O) : (placeI n O O.length)[b]? = some (-1) := by rw [placeI_at h, if_neg hb]
theorem encI_64 {n : Nat} {I : Nat → Option Nat} (h : ∀ b p, I b = some p → p < 1000000) : ∀ x ∈ encI n I, In64 x := by
  intro x hx
  obtain ⟨b, _, rfl⟩ := List.mem_map.1 hx
  split
  · exact ⟨by omega, by omega⟩
  · rename_i p hp
    have := h b p hp
    exact ⟨by omega, by omega⟩

/-- A tree in memory, its graph beside it. -/
structure TreeM (f : FuncD) (W : World) (bt bg lg lcap : Nat) (g : Array Value) (pv ov lv : Value) (O : List Nat) (I : Nat → Option Nat) : Prop where
  tree : Box W bt #[.pointer (some ⟨bg, 0, none⟩), .slice (some ⟨lg, 0, none⟩) f.blocks.length lcap]
  graph : Box W bg (g ++ #[pv, ov, lv])
  gsize : g.size = 4
  idom : Cells W (.slice (some ⟨lg, 0, none⟩) f.blocks.length lcap) lg (encI f.blocks.length I)
  preds : Lists W pv (predsF f)
  order : Ints W ov (natI O)
  place : Ints W lv (placeI f.blocks.length O O.length)
theorem TreeM.later {f : FuncD} {W W' : World} {bt bg lg lcap : Nat} {g : Array Value} {pv ov lv : Value} {O : List Nat} {I : Nat → Option Nat} (h : TreeM f W bt bg lg lcap g pv ov lv O I) (hb : Below W.heap.size W W') : TreeM f W' bt bg lg lcap g pv ov lv O I :=
  ⟨h.tree.later hb, h.graph.later hb, h.gsize, h.idom.later hb, h.preds.below hb, h.order.below hb, h.place.below hb⟩
theorem arr_at (g : Array Value) (pv ov lv : Value) (h : g.size = 4) : (g ++ #[pv, ov, lv])[4]? = some pv ∧ (g ++ #[pv, ov, lv])[5]? = some ov ∧ (g ++ #[pv, ov, lv])[6]? = some lv := by
  refine ⟨?_, ?_, ?_⟩ <;> rw [Array.getElem?_append_right (by omega), h] <;> rfl
/-- Each cell that a walk wants. -/
theorem TreeM.cells {f : FuncD} {W : World} {bt bg lg lcap : Nat} {g : Array Value} {pv ov lv : Value} {O : List Nat} {I : Nat → Option Nat} (h : TreeM f W bt bg lg lcap g pv ov lv O I) :
    W.cell? ⟨bt, 0, none⟩ = some (.pointer (some ⟨bg, 0, none⟩)) ∧ W.cell? ⟨bt, 1, none⟩ = some (.slice (some ⟨lg, 0, none⟩) f.blocks.length lcap) ∧ W.cell? ⟨bg, 4, none⟩ = some pv ∧ W.cell? ⟨bg, 5, none⟩ = some ov ∧ W.cell? ⟨bg, 6, none⟩ = some lv := by
  obtain ⟨e4, e5, e6⟩ := arr_at g pv ov lv h.gsize
  exact ⟨h.tree.at 0 rfl, h.tree.at 1 rfl, h.graph.at 4 e4, h.graph.at 5 e5, h.graph.at 6 e6⟩

set_option maxHeartbeats 6400000 in
theorem domMeet {W : World} {f : FuncD} {bt bg lg lcap : Nat} {g : Array Value} {pv ov lv : Value} {O : List Nat} {I : Nat → Option Nat} (hT : TreeM f W bt bg lg lcap g pv ov lv O I) (hO : IsOrder f O) (h512 : f.blocks.length ≤ 512) (hI : Tree (toB f) (fun b => O.idxOf b) I)
    {x y : Nat} (hx : Proc I x) (hy : Proc I y) :
    Calls Try.prog 82 #[.pointer (some ⟨bt, 0, none⟩), .int .i64 x, .int .i64 y] W fun e w' => ∃ m : Nat, e = .returned (.int .i64 m) ∧ Proc I m ∧ (∀ c, Anc I c m ↔ (Anc I c x ∧ Anc I c y)) ∧ Below W.heap.size W w' := by
  obtain ⟨hc0, hc1, -, -, hc6⟩ := hT.cells
  obtain ⟨pa, pc, pb, po, hpe, hpc, hpm, hpa, hpx⟩ := hT.place.parts
  rw [placeI_len] at hpe hpc hpa
  subst hpe
  obtain ⟨lc2, -, -, -, hil, hif⟩ := hT.idom.form
  obtain ⟨h1, h2, h3, h4, h5⟩ := hO.facts
  have hP := hO.placed
  obtain ⟨nb, hnb⟩ : ∃ nb, nb = f.blocks.length := ⟨_, rfl⟩
  rw [← hnb] at hc1 hpc hpa hil h512 h3 hc6
  have hn1 : 0 < nb := by have := h3 0 (List.mem_of_getElem? h4); omega
  obtain ⟨rfl, hpb⟩ := hpa hn1
  have hlgl := hT.idom.lt
  have hbtl := hT.tree.lt
  have hbgl := hT.graph.lt
  have HC0 := Lib.hid hc0
  have HC1 := Lib.hid hc1
  have HC6 := Lib.hid hc6
  have HPX := Lib.hid hpx
  have HIL := Lib.hid hil
  have HTR := Lib.hid hI
  have HPL := Lib.hid hP
  have HO2 := Lib.hid h2
  have HO3 := Lib.hid h3
  have HX := Lib.hid hx
  have HY := Lib.hid hy
  have HNB := Lib.hid hnb
  have HW := Lib.hid (Below.refl W.heap.size W)
  clear hT hc0 hc1 hc6 hpx hil hif h1 h2 h3 h4 h5 hP hI hO hx hy hnb hpa
  go_enter Try.func82, Try.ntmps82
  go_wp2_with fail
  go_loopw [1, 2] (fun u v wr => ∃ a b : Nat, u = .int .i64 a ∧ v = .int .i64 b ∧ Proc I a ∧ Proc I b ∧ (∀ c, (Anc I c a ∧ Anc I c b) ↔ (Anc I c x ∧ Anc I c y)) ∧ Below W.heap.size W wr) (fun u v _ => O.idxOf (intOf u).toNat + O.idxOf (intOf v).toNat)
  case atStart => exact ⟨x, y, rfl, rfl, HX.out, HY.out, fun _ => Iff.rfl, HW.out⟩
  case round =>
    obtain ⟨a, b, rfl, rfl, ha, hb, hab, hW⟩ := hrel
    have hwa := HTR.out.proc_way ha
    have hwb := HTR.out.proc_way hb
    have hal := HO3.out a ((HO2.out a).2 hwa)
    have hbl := HO3.out b ((HO2.out b).2 hwb)
    have HA := Lib.hid ha
    have HB := Lib.hid hb
    have HAB := Lib.hid hab
    have HWA := Lib.hid hwa
    have HWB := Lib.hid hwb
    replace HW := Lib.hid hW
    clear ha hb hab hwa hwb hW
    by_cases hne : a = b
    · have hq : ((a : Int) != (b : Int)) = false := by simp [hne]
      have HNE := Lib.hid hne
      clear hne
      go_wp2
      go_ret
      refine ⟨a, rfl, HA.out, fun c => ?_, HW.out⟩
      rw [← HAB.out c, ← HNE.out]
      exact ⟨fun h => ⟨h, h⟩, fun h => h.1⟩
    · have hq : ((a : Int) != (b : Int)) = true := by simp; omega
      have HNE := Lib.hid hne
      have d0 := (HW.out.cell (p := ⟨bt, 0, none⟩) hbtl).trans HC0.out
      have d1 := (HW.out.cell (p := ⟨bt, 1, none⟩) hbtl).trans HC1.out
      have d6 := (HW.out.cell (p := ⟨bg, 6, none⟩) hbgl).trans HC6.out
      have hpax : (placeI f.blocks.length O O.length).getD a 0 = ((O.idxOf a : Nat) : Int) := by rw [List.getD_eq_getElem?_getD, placeI_in (by rw [← HNB.out]; exact hal) ((HO2.out a).2 HWA.out)]; rfl
      have hpbx : (placeI f.blocks.length O O.length).getD b 0 = ((O.idxOf b : Nat) : Int) := by rw [List.getD_eq_getElem?_getD, placeI_in (by rw [← HNB.out]; exact hbl) ((HO2.out b).2 HWB.out)]; rfl
      have da := (HW.out.cell (p := ⟨pb, po + a, none⟩) hpb).trans (HPX.out a (by rw [placeI_len, ← HNB.out]; exact hal))
      have db := (HW.out.cell (p := ⟨pb, po + b, none⟩) hpb).trans (HPX.out b (by rw [placeI_len, ← HNB.out]; exact hbl))
      rw [hpax] at da
      rw [hpbx] at db
      have HPA : Hid (∃ pa : Nat, pa = O.idxOf a) := Lib.hid ⟨_, rfl⟩
      obtain ⟨ia, hia⟩ := HPA.out
      obtain ⟨ib, hib⟩ : ∃ ib, ib = O.idxOf b := ⟨_, rfl⟩
      rw [← hia] at da
      rw [← hib] at db
      have HIA := Lib.hid hia
      have HIB := Lib.hid hib
      clear hne hpax hpbx hia hib HPA
      by_cases hlt : ib < ia
      · have hg : decide ((ib : Int) < (ia : Int)) = true := by simp; exact hlt
        obtain ⟨p, hp, hpp, hpl, hpm2⟩ := HTR.out.meets HPL.out.zero HA.out (y := b) (by show O.idxOf b < O.idxOf a; rw [← HIA.out, ← HIB.out]; exact hlt)
        have dp := (HW.out.cell (p := ⟨lg, a, none⟩) hlgl).trans (HIL.out a p (encI_some hal hp))
        have HP2 := Lib.hid hpp
        have HL2 := Lib.hid hpl
        have HM2 := Lib.hid hpm2
        clear hp hpp hpl hpm2
        go_upto_region 2 with (fail)
        go_quiet (fail)
        go_wp2
        go_roundw
        case rel => exact ⟨p, b, rfl, rfl, HP2.out, HB.out, fun c => (HM2.out c).trans (HAB.out c), below_drewN HW.out _⟩
        case measure =>
          have h9 := HL2.out
          simp only [intOf, Int.toNat_natCast] at h9 ⊢
          omega
      · have hg : decide ((ib : Int) < (ia : Int)) = false := by simp; omega
        have hlt2 : O.idxOf a < O.idxOf b := by
          rw [← HIA.out, ← HIB.out]
          rcases Nat.lt_or_ge ia ib with h | h
          · exact h
          · exact absurd (HPL.out.inj HWA.out HWB.out (by show O.idxOf a = O.idxOf b; rw [← HIA.out, ← HIB.out]; omega)) HNE.out
        obtain ⟨p, hp, hpp, hpl, hpm2⟩ := HTR.out.meets HPL.out.zero HB.out (y := a) hlt2
        have dp := (HW.out.cell (p := ⟨lg, b, none⟩) hlgl).trans (HIL.out b p (encI_some hbl hp))
        have HP2 := Lib.hid hpp
        have HL2 := Lib.hid hpl
        have HM2 := Lib.hid hpm2
        clear hp hpp hpl hpm2 hlt2
        go_upto_region 2 with (fail)
        go_quiet (fail)
        go_wp2
        go_roundw
        case rel => exact ⟨a, p, rfl, rfl, HA.out, HP2.out, fun c => (and_comm.trans ((HM2.out c).trans and_comm)).trans (HAB.out c), below_drewN HW.out _⟩
        case measure =>
          have h9 := HL2.out
          simp only [intOf, Int.toNat_natCast] at h9 ⊢
          omega
end Go.Proofs.Ytefpmjnimnmniaa
