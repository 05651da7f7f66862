/- What the claim needs, part 24. -/
import Derived.Test.YtjmikinbdclfbaaCE23
namespace Go.Proofs.Ytjmikinbdclfbaa
set_option linter.unusedSimpArgs false
set_option linter.unusedVariables false
section
open Go.RowKit
def OverP (f : FuncD) (a b : Nat) : Prop := Way (toB f) (-1) a ∧ Way (toB f) (-1) b ∧ ¬ Way (toB f) (a : Int) b
def DOpenR (f : FuncD) (v : Value) (w : World) (e : Ending) (w' : World) : Prop :=
  Below w.heap.size w w' ∧ ((checkF f ≠ 0 ∧ e = .returned (.tuple #[.pointer none, .int .i64 (checkF f)])) ∨
    (checkF f = 0 ∧ ∃ (bt bg lg lcap : Nat) (g : Array Value) (pv ov lv : Value) (O : List Nat) (I : Nat → Option Nat), e = .returned (.tuple #[.pointer (some ⟨bt, 0, none⟩), .int .i64 0]) ∧ v = .agg g ∧ IsOrder f O ∧ TreeM f w' bt bg lg lcap g pv ov lv O I ∧ DomI f O I))
set_option maxHeartbeats 3200000 in
theorem domOpen {w : World} {v : Value} {f : FuncD} (hv : FuncV w v f) : Calls Try.prog 36 #[v] w (DOpenR f v w) := by
  have HV := Lib.hid hv
  obtain ⟨ap, cp, ab, cb, rfl, hp, ha, hc, hB⟩ := hv.form
  clear hp ha hc hB hv
  go_enter Try.func36, Try.ntmps36
  go_upto_region 1 with (fail)
  have B1 : Hid (Box (w.alloc (.cells #[.slice ap f.params.length cp, .int .i64 f.arrays, .int .i64 f.cells, .slice ab f.blocks.length cb] 31)) (w.heap.size) #[.slice ap f.params.length cp, .int .i64 f.arrays, .int .i64 f.cells, .slice ab f.blocks.length cb]) := Lib.hid (by simpa using (Box.new w #[.slice ap f.params.length cp, .int .i64 f.arrays, .int .i64 f.cells, .slice ab f.blocks.length cb] 31))
  have HW : Hid (Below w.heap.size w (w.alloc (.cells #[.slice ap f.params.length cp, .int .i64 f.arrays, .int .i64 f.cells, .slice ab f.blocks.length cb] 31))) := Lib.hid ((Below.refl _ _).alloc (Nat.le_refl _) _)
  generalize (w.alloc (.cells #[.slice ap f.params.length cp, .int .i64 f.arrays, .int .i64 f.cells, .slice ab f.blocks.length cb] 31)) = wv at *
  obtain ⟨lB1, cB1, fB1⟩ := B1.out
  go_wp2_with fail
  refine (graphOpen (HV.out.below HW.out)).mono ?_
  rintro e w2 ⟨hb, ⟨hc0, rfl⟩ | ⟨hc0, bg, O, rfl, hO, hG⟩⟩
  · have hc1 : (checkF f != 0) = true := by simpa using hc0
    have HC0 := Lib.hid hc0
    clear hc0
    clear lB1 cB1 fB1
    replace B1 := Lib.hid (B1.out.later hb)
    replace HW := Lib.hid (HW.out.trans (hb.mono HW.out.size))
    clear hb
    obtain ⟨lB1, cB1, fB1⟩ := B1.out
    go_wp2
    go_ret2
    exact ⟨HW.out, .inl ⟨HC0.out, rfl⟩⟩
  · have HC0 := Lib.hid hc0
    have HO := Lib.hid hO
    have HG := Lib.hid hG
    clear hc0 hO hG
    clear lB1 cB1 fB1
    replace B1 := Lib.hid (B1.out.later hb)
    replace HW := Lib.hid (HW.out.trans (hb.mono HW.out.size))
    clear hb
    obtain ⟨lB1, cB1, fB1⟩ := B1.out
    go_wp2_with fail
    refine (domNew (HV.out.below HW.out) HG.out HO.out (check_fine HC0.out).1).mono ?_
    rintro e w3 ⟨bt, lg, lcap, g, pv, ov, lv, I, rfl, hvg, hT, hD, hb⟩
    have HT := Lib.hid hT
    have HD := Lib.hid hD
    have HVG := Lib.hid hvg
    clear hT hD hvg
    clear lB1 cB1 fB1
    replace B1 := Lib.hid (B1.out.later hb)
    replace HW := Lib.hid (HW.out.trans (hb.mono HW.out.size))
    clear hb
    obtain ⟨lB1, cB1, fB1⟩ := B1.out
    go_wp2
    go_ret2
    exact ⟨HW.out, .inr ⟨HC0.out, bt, bg, lg, lcap, g, pv, ov, lv, O, I, rfl, HVG.out, HO.out, HT.out, HD.out⟩⟩
set_option maxHeartbeats 6400000 in
theorem treeOver {W : World} {f : FuncD} {bt bg lg lcap : Nat} {g : Array Value} {pv ov lv : Value} {O : List Nat} {I : Nat → Option Nat} (hT : TreeM f W bt bg lg lcap g pv ov lv O I) (hO : IsOrder f O) (hI : DomI f O I) (h512 : f.blocks.length ≤ 512)
    {a b : Nat} (ha : a < f.blocks.length) (hb : b < f.blocks.length) :
    Calls Try.prog 48 #[.pointer (some ⟨bt, 0, none⟩), .int .i64 a, .int .i64 b] W fun e w' => ∃ r : Bool, e = .returned (.bool r) ∧ (r = true ↔ OverP f a b) ∧ W = w' := by
  obtain ⟨hc0, hc1, -, -, hc6⟩ := hT.cells
  obtain ⟨pa, pc, pb, po, hpe, hpc, hpm, hpa, hpx⟩ := hT.place.parts
  rw [placeI_len] at hpe hpc hpa
  subst hpe
  obtain ⟨lc2, -, -, -, hil, hif⟩ := hT.idom.form
  obtain ⟨h1, h2, h3, h4, h5⟩ := hO.facts
  obtain ⟨nb, hnb⟩ : ∃ nb, nb = f.blocks.length := ⟨_, rfl⟩
  have hda := hpx a (by rw [placeI_len]; exact ha)
  have hdb := hpx b (by rw [placeI_len]; exact hb)
  rw [List.getD_eq_getElem?_getD, placeI_at ha, Option.getD_some] at hda
  rw [List.getD_eq_getElem?_getD, placeI_at hb, Option.getD_some] at hdb
  rw [← hnb] at hc1 hpc hpa hil h512 h3 hc6 ha hb
  obtain ⟨rfl, hpb⟩ := hpa (by omega)
  have HIL := Lib.hid hil
  have HTR := Lib.hid hI.tree
  have HPR := Lib.hid (fun (v : Nat) (h : Way (toB f) (-1) v) => hI.proc h)
  have HAN := Lib.hid (fun (c v : Nat) (h : Way (toB f) (-1) v) => hI.anc (c := c) h)
  have HO2 := Lib.hid h2
  have HO3 := Lib.hid h3
  clear hT hpx hil hif h1 h3 h4 h5 hI hO hnb hpa
  by_cases haO : a ∈ O
  · rw [if_pos haO] at hda
    have hna : decide (((O.idxOf a : Nat) : Int) < 0) = false := by simp
    by_cases hbO : b ∈ O
    · rw [if_pos hbO] at hdb
      have hnb : decide (((O.idxOf b : Nat) : Int) < 0) = false := by simp
      have HAW := Lib.hid ((h2 a).1 haO)
      have HBW := Lib.hid ((h2 b).1 hbO)
      clear h2 haO hbO
      go_enter Try.func48, Try.ntmps48
      go_wp2_with fail
      clear hda hdb hna hnb
      go_loopw [2] (fun u wr => ∃ b' : Nat, u = .int .i64 b' ∧ Way (toB f) (-1) b' ∧ (Anc I a b' ↔ Anc I a b) ∧ W = wr) (fun u _ => O.idxOf (intOf u).toNat)
      case atStart => exact ⟨b, rfl, HBW.out, Iff.rfl, rfl⟩
      case round =>
        obtain ⟨c, rfl, hcw, hci, rfl⟩ := hrel
        have HCW := Lib.hid hcw
        have HCI := Lib.hid hci
        have hcl := HO3.out c ((HO2.out c).2 hcw)
        clear hcw hci
        by_cases hca : c = a
        · have hq : ((c : Int) != (a : Int)) = false := by simp [hca]
          have hq2 : ((a : Int) == (c : Int)) = true := by simp [hca]
          have HR : Hid (OverP f a b) := Lib.hid ⟨HAW.out, HBW.out, (HAN.out a b HBW.out).1 (HCI.out.1 (by rw [hca]; exact .refl))⟩
          have HQ2 := Lib.hid hq2
          clear hca hq2
          go_wp2
          go_ret
          refine ⟨_, rfl, ?_, ?_⟩
          · first | exact ⟨fun _ => HR.out, fun _ => HQ2.out⟩ | simp [HR.out]
          · first | rfl | trivial
        · have hq : ((c : Int) != (a : Int)) = true := by simp; omega
          by_cases hc00 : c = 0
          · have hq2 : ((a : Int) == (c : Int)) = false := by simp; omega
            have HQ2 := Lib.hid hq2
            clear hq2
            have HR : Hid (¬ OverP f a b) := Lib.hid (fun h => by
              have h9 := HCI.out.2 ((HAN.out a b HBW.out).2 h.2.2)
              rw [hc00] at h9
              exact hca (by rw [hc00, HTR.out.anc_zero h9]))
            have hcn : ¬ 0 < c := by omega
            clear hca hc00
            go_wp2
            go_ret
            refine ⟨_, rfl, ?_, ?_⟩
            · first | exact ⟨fun h => absurd (HQ2.out.symm.trans h) (by simp), fun h => absurd h HR.out⟩ | simp [HR.out]
            · first | rfl | trivial
          · have hgt : 0 < c := by omega
            obtain ⟨p, hp⟩ := Option.isSome_iff_exists.1 ((HPR.out c HCW.out).resolve_left hc00)
            obtain ⟨p1, p2, p3, p4⟩ := HTR.out.par hp
            have dp := HIL.out c p (encI_some hcl hp)
            have HP2 := Lib.hid p2
            have HP3 := Lib.hid p3
            have HAP : Hid (Anc I a p ↔ Anc I a b) := Lib.hid (by
              rw [← HCI.out]
              constructor
              · exact fun h => .up hp h
              · intro h
                rcases h.parts with e | ⟨q, e, h⟩
                · exact absurd e.symm hca
                · rw [hp] at e; cases e; exact h)
            clear hca hc00 hp p1 p2 p3 p4
            go_wp2
            go_roundw
            case rel => exact ⟨p, rfl, HP2.out, HAP.out, by first | rfl | trivial⟩
            case measure =>
              have h9 := HP3.out
              simp only [intOf, Int.toNat_natCast] at h9 ⊢
              exact h9
    · rw [if_neg hbO] at hdb
      have HN : Hid (¬ OverP f a b) := Lib.hid (fun h => hbO ((h2 b).2 h.2.1))
      clear h2 haO hbO
      go_enter Try.func48, Try.ntmps48
      go_wp2
      go_ret
      exact ⟨false, rfl, by simpa using HN.out, rfl⟩
  · rw [if_neg haO] at hda
    have HN : Hid (¬ OverP f a b) := Lib.hid (fun h => haO ((h2 a).2 h.1))
    clear h2 haO
    go_enter Try.func48, Try.ntmps48
    go_wp2
    go_ret
    exact ⟨false, rfl, by simpa using HN.out, rfl⟩
end
section
open Go.RowKit
end
section
open Go.RowKit
theorem DomI.over {f : FuncD} {O : List Nat} {I : Nat → Option Nat} (h : DomI f O I) {c v : Nat} (hv : Way (toB f) (-1) v) : Anc I c v ↔ OverP f c v :=
  ⟨fun ha => ⟨h.tree.proc_way (h.tree.procs ha (h.proc hv)), hv, (h.anc hv).1 ha⟩, fun ho => (h.anc hv).2 ho.2.2⟩
theorem over_antisymm {f : FuncD} {O : List Nat} (hO : IsOrder f O) {a b : Nat} (h : OverP f a b) (k : OverP f b a) : a = b := by
  have hP := hO.placed
  have low : ∀ (c n u : Nat), Way (toB f) (-1) c → O.idxOf u ≤ n → Way (toB f) (-1) u → O.idxOf u < O.idxOf c → Way (toB f) (c : Int) u := by
    intro c n
    induction n with
    | zero =>
      intro u hc hn hu hl
      have : u = 0 := hP.inj hu (.zero (by decide)) (by have h9 : O.idxOf 0 = 0 := hP.zero; show O.idxOf u = O.idxOf 0; omega)
      subst this
      exact .zero (fun e => by
        have : c = 0 := by omega
        subst this; omega)
    | succ n ih =>
      intro u hc hn hu hl
      by_cases e0 : u = 0
      · subst e0
        exact .zero (fun e => by
          have : c = 0 := by omega
          subst this; omega)
      · obtain ⟨q, q1, q2, q3⟩ := hP.ahead hu e0
        have q3 : O.idxOf q < O.idxOf u := q3
        exact .step (ih q hc (by omega) q1 (by omega)) q2 (fun e => by
          have : u = c := by omega
          subst this; omega)
  rcases Nat.lt_trichotomy (O.idxOf a) (O.idxOf b) with h1 | h1 | h1
  · exact absurd (low b _ a h.2.1 (Nat.le_refl _) h.1 h1) k.2.2
  · exact hP.inj h.1 h.2.1 h1
  · exact absurd (low a _ b h.1 (Nat.le_refl _) h.2.1 h1) h.2.2
end
end Go.Proofs.Ytjmikinbdclfbaa
namespace Go.Proofs.Ytjmikinbdclfbaa
set_option linter.unusedSimpArgs false
set_option linter.unusedVariables false
open Go.RowKit
inductive Body (tos : Nat → List Nat) (h : Nat) (L : Nat → Prop) : Nat → Prop
  | head : Body tos h L h
  | latch {p : Nat} : L p → Body tos h L p
  | step {p b : Nat} : Body tos h L b → b ≠ h → b ∈ tos p → Body tos h L p
inductive From (tos : Nat → List Nat) (a g : Nat) : Nat → Prop
  | here : From tos a g a
  | step {b t : Nat} : From tos a g b → t ∈ tos b → t ≠ g → From tos a g t
section
variable {tos : Nat → List Nat}
theorem Body.over {h b : Nat} {L : Nat → Prop} (hL : ∀ p, L p → ¬ Way tos (h : Int) p) (hb : Body tos h L b) : ¬ Way tos (h : Int) b := by
  induction hb with
  | head => exact fun hw => hw.ne rfl
  | latch hp => exact hL _ hp
  | step _ hne ht ih => exact fun hw => ih (.step hw ht (by omega))
theorem way_mid {a g v : Nat} (hag : Way tos (a : Int) g) (hv : Way tos (-1) v) : Way tos (a : Int) v ∨ From tos a g v := by
  have h0 : a ≠ 0 := fun e => by
    subst e
    have key : ∀ x, Way tos ((0 : Nat) : Int) x → False := fun x hx => by
      induction hx with
      | zero h => exact h rfl
      | step _ _ _ ih => exact ih
    exact key _ hag
  induction hv with
  | zero _ => exact .inl (.zero (by omega))
  | @step b t _ ht _ ih =>
    rcases ih with ih | ih
    · by_cases e : t = a
      · subst e; exact .inr .here
      · exact .inl (.step ih ht (by omega))
    · by_cases e : t = g
      · subst e; exact .inl hag
      · exact .inr (.step ih ht e)
theorem From.way {a g v : Nat} (h : From tos a g v) (ha : Way tos (g : Int) a) : Way tos (g : Int) v := by
  induction h with
  | here => exact ha
  | step _ ht hne ih => exact .step ih ht (by omega)
theorem over_line {a b v : Nat} (hv : Way tos (-1) v) (ha : ¬ Way tos (a : Int) v) (hb : ¬ Way tos (b : Int) v) : ¬ Way tos (a : Int) b ∨ ¬ Way tos (b : Int) a := by
  refine Classical.byContradiction fun h => ?_
  have h1 : Way tos (a : Int) b := Classical.byContradiction fun k => h (.inl k)
  have h2 : Way tos (b : Int) a := Classical.byContradiction fun k => h (.inr k)
  rcases way_mid h1 hv with h3 | h3
  · exact ha h3
  · exact hb (h3.way h2)
theorem From.body {a g v : Nat} {L : Nat → Prop} (h : From tos a g v) (hb : Body tos g L v) : Body tos g L a := by
  induction h with
  | here => exact hb
  | step _ ht hne ih => exact ih (.step hb hne ht)
theorem Body.within {h1 h2 x : Nat} {L1 L2 : Nat → Prop} (hx : Way tos (-1) x) (x1 : Body tos h1 L1 x) (x2 : Body tos h2 L2 x) (hL2 : ∀ p, L2 p → ¬ Way tos (h2 : Int) p ∧ h2 ∈ tos p) (hno : Way tos (h2 : Int) h1) (hne : h2 ≠ h1) {b : Nat} (hb : Body tos h2 L2 b) : Body tos h1 L1 b := by
  have ov : ∀ {b}, Body tos h2 L2 b → ¬ Way tos (h2 : Int) b := fun h => h.over fun p hp => (hL2 p hp).1
  have hh : Body tos h1 L1 h2 := by
    rcases way_mid hno hx with h | h
    · exact absurd h (ov x2)
    · exact h.body x1
  induction hb with
  | head => exact hh
  | latch hp => exact .step hh hne (hL2 _ hp).2
  | step hb' _ ht ih => exact .step ih (fun e => ov hb' (by rw [e]; exact hno)) ht
end
structure LoopD where
  head : Nat
  blocks : List Nat
  latches : List Nat
  exits : List Nat
  parent : Int
section
open Classical
noncomputable def latN (f : FuncD) (h : Nat) : List Nat := (predN f f.blocks.length 0 h).filter fun p => decide (OverP f h p)
def InL (f : FuncD) (h b : Nat) : Prop := Body (toB f) h (· ∈ latN f h) b
noncomputable def bodyN (f : FuncD) (h : Nat) : List Nat := (List.range f.blocks.length).filter fun b => decide (InL f h b)
noncomputable def exitN (f : FuncD) (h : Nat) : List Nat := (List.range f.blocks.length).filter fun t => decide (¬ InL f h t ∧ ∃ b, InL f h b ∧ t ∈ toB f b)
noncomputable def headsN (f : FuncD) : List Nat := (List.range f.blocks.length).filter fun h => !(latN f h).isEmpty
end
noncomputable def loopOf (f : FuncD) (h : Nat) : LoopD := ⟨h, bodyN f h, latN f h, exitN f h, 0⟩
noncomputable def loops0 (f : FuncD) : List LoopD := (headsN f).map (loopOf f)
def withinB (ls : List LoopD) (i j : Nat) : Bool := match ls[i]?, ls[j]? with
  | some a, some b => a.blocks.all fun x => b.blocks.contains x
  | _, _ => false
def sizeL (ls : List LoopD) (j : Nat) : Nat := match ls[j]? with | some b => b.blocks.length | none => 0
def parStep (ls : List LoopD) (i : Nat) (best : Int) (j : Nat) : Int :=
  if j ≠ i ∧ withinB ls i j = true ∧ (best < 0 ∨ sizeL ls j < sizeL ls best.toNat) then (j : Int) else best
def parentN (ls : List LoopD) (i : Nat) : Int := (List.range ls.length).foldl (parStep ls i) (-1)
noncomputable def loopsF (f : FuncD) : List LoopD := (loops0 f).mapIdx fun i l => { l with parent := parentN (loops0 f) i }
theorem toB_lt {f : FuncD} {p b : Nat} (h : b ∈ toB f p) : p < f.blocks.length := by
  refine Classical.byContradiction fun hn => ?_
  unfold toB at h
  rw [List.getD_eq_getElem?_getD, List.getElem?_eq_none (by omega)] at h
  cases h
theorem mem_latN {f : FuncD} {h p : Nat} : p ∈ latN f h ↔ h ∈ toB f p ∧ OverP f h p := by
  unfold latN
  rw [List.mem_filter, predN_zero, List.mem_filter, List.mem_range]
  simp only [List.contains_iff_mem, decide_eq_true_eq]
  exact ⟨fun h => ⟨h.1.2, h.2⟩, fun h => ⟨⟨toB_lt h.1, h.1⟩, h.2⟩⟩
theorem InL.lt {f : FuncD} {h b : Nat} (hh : h < f.blocks.length) (k : InL f h b) : b < f.blocks.length := by
  induction k with
  | head => exact hh
  | latch hp => exact toB_lt (mem_latN.1 hp).1
  | step _ _ ht _ => exact toB_lt ht
theorem mem_bodyN {f : FuncD} {h b : Nat} (hh : h < f.blocks.length) : b ∈ bodyN f h ↔ InL f h b := by
  unfold bodyN
  rw [List.mem_filter, List.mem_range]
  simp only [decide_eq_true_eq]
  exact ⟨fun h => h.2, fun h => ⟨h.lt hh, h⟩⟩
theorem InL.over {f : FuncD} {h b : Nat} (k : InL f h b) : ¬ Way (toB f) (h : Int) b := Body.over (fun p hp => (mem_latN.1 hp).2.2.2) k
theorem bodyN_nodup (f : FuncD) (h : Nat) : (bodyN f h).Nodup := List.Pairwise.filter _ List.nodup_range
theorem mem_headsN {f : FuncD} {h : Nat} : h ∈ headsN f ↔ h < f.blocks.length ∧ latN f h ≠ [] := by
  unfold headsN
  rw [List.mem_filter, List.mem_range]
  simp
theorem headsN_rise (f : FuncD) : (headsN f).Pairwise (· < ·) := List.Pairwise.filter _ List.pairwise_lt_range
theorem loops0_at {f : FuncD} {i : Nat} {l : LoopD} (h : (loops0 f)[i]? = some l) : l = loopOf f l.head ∧ (headsN f)[i]? = some l.head := by
  unfold loops0 at h
  rw [List.getElem?_map] at h
  cases hx : (headsN f)[i]? with
  | none => rw [hx] at h; cases h
  | some y => rw [hx] at h; cases h; exact ⟨rfl, rfl⟩
theorem nodup_within : ∀ {a b : List Nat}, a.Nodup → (∀ x ∈ a, x ∈ b) → a.length ≤ b.length
  | [], _, _, _ => Nat.zero_le _
  | x :: a, b, ha, h => by
    obtain ⟨h1, h2⟩ := List.nodup_cons.1 ha
    have hx := h x (by simp)
    have := nodup_within (b := b.erase x) h2 fun y hy => (List.mem_erase_of_ne (fun e => h1 (by rw [← e]; exact hy))).2 (h y (List.mem_cons_of_mem _ hy))
    rw [List.length_erase_of_mem hx] at this
    have := List.length_pos_of_mem hx
    rw [List.length_cons]
    omega
theorem loops_nest {f : FuncD} {O : List Nat} (hO : IsOrder f O) (hall : ∀ d, d < f.blocks.length → Way (toB f) (-1) d) {h1 h2 x : Nat} (l1 : h1 < f.blocks.length) (l2 : h2 < f.blocks.length) (hne : h1 ≠ h2) (x1 : InL f h1 x) (x2 : InL f h2 x) :
    (∀ b, InL f h2 b → InL f h1 b) ∨ (∀ b, InL f h1 b → InL f h2 b) := by
  have hx := hall x (x1.lt l1)
  have one : ∀ {a b : Nat}, a < f.blocks.length → b < f.blocks.length → a ≠ b → InL f a x → InL f b x → ¬ Way (toB f) (a : Int) b → ∀ c, InL f b c → InL f a c := fun {a b} la lb hab xa xb hov c hc => by
    have hno : Way (toB f) (b : Int) a := Classical.byContradiction fun k => hab (over_antisymm hO ⟨hall a la, hall b lb, hov⟩ ⟨hall b lb, hall a la, k⟩)
    exact Body.within hx xa xb (fun p hp => ⟨(mem_latN.1 hp).2.2.2, (mem_latN.1 hp).1⟩) hno (fun e => hab e.symm) hc
  rcases over_line hx x1.over x2.over with h | h
  · exact .inl (one l1 l2 hne x1 x2 h)
  · exact .inr (one l2 l1 (fun e => hne e.symm) x2 x1 h)
theorem loops_less {f : FuncD} {O : List Nat} (hO : IsOrder f O) (hall : ∀ d, d < f.blocks.length → Way (toB f) (-1) d) {h1 h2 : Nat} (l1 : h1 < f.blocks.length) (l2 : h2 < f.blocks.length) (hne : h1 ≠ h2) (hw : ∀ b, InL f h1 b → InL f h2 b) :
    (bodyN f h1).length < (bodyN f h2).length ∧ InL f h2 h1 := by
  have hin : InL f h2 h1 := hw h1 .head
  refine ⟨?_, hin⟩
  have hno : ¬ InL f h1 h2 := fun k => hne (over_antisymm hO ⟨hall h1 l1, hall h2 l2, k.over⟩ ⟨hall h2 l2, hall h1 l1, hin.over⟩)
  have hsub : (h2 :: bodyN f h1).length ≤ (bodyN f h2).length := by
    refine nodup_within ?_ fun b hb => ?_
    · exact List.nodup_cons.2 ⟨fun k => hno ((mem_bodyN l1).1 k), bodyN_nodup f h1⟩
    · rcases List.mem_cons.1 hb with rfl | hb
      · exact (mem_bodyN l2).2 .head
      · exact (mem_bodyN l2).2 (hw b ((mem_bodyN l1).1 hb))
  rw [List.length_cons] at hsub
  omega
theorem count_within {a b : List Nat} (ha : a.Nodup) (hb : b.Nodup) (h : ∀ x ∈ b, x ∈ a) : a.countP (fun x => b.contains x) = b.length := by
  rw [List.countP_eq_length_filter]
  apply Nat.le_antisymm
  · exact nodup_within (List.Pairwise.filter _ ha) fun x hx => by have := (List.mem_filter.1 hx).2; simpa using this
  · exact nodup_within hb fun x hx => List.mem_filter.2 ⟨h x hx, by simpa using hx⟩
theorem count_all {a b : List Nat} (h : ∀ x ∈ a, x ∈ b) : a.countP (fun x => b.contains x) = a.length := List.countP_eq_length.2 fun x hx => by simpa using h x hx
theorem parent_fold {ls : List LoopD} {i : Nat} : ∀ (n : Nat), n ≤ ls.length → let p := (List.range n).foldl (parStep ls i) (-1); p = -1 ∨ (0 ≤ p ∧ p < n ∧ p.toNat ≠ i ∧ withinB ls i p.toNat = true)
  | 0, _ => .inl rfl
  | n + 1, hn => by
    have ih := parent_fold (ls := ls) (i := i) n (by omega)
    simp only [List.range_succ, List.foldl_append, List.foldl_cons, List.foldl_nil] at ih ⊢
    obtain ⟨p, hp⟩ : ∃ p, p = (List.range n).foldl (parStep ls i) (-1) := ⟨_, rfl⟩
    rw [← hp] at ih ⊢
    unfold parStep
    split
    · rename_i h
      exact .inr ⟨by omega, by omega, by simpa using h.1, by simpa using h.2.1⟩
    · rcases ih with h | h
      · exact .inl h
      · exact .inr ⟨h.1, by omega, h.2.2⟩
theorem parent_is (ls : List LoopD) (i : Nat) : parentN ls i = -1 ∨ (0 ≤ parentN ls i ∧ parentN ls i < ls.length ∧ (parentN ls i).toNat ≠ i ∧ withinB ls i (parentN ls i).toNat = true) := parent_fold ls.length (Nat.le_refl _)
theorem loopsF_at {f : FuncD} {i : Nat} {l : LoopD} (h : (loopsF f)[i]? = some l) : l = { loopOf f l.head with parent := parentN (loops0 f) i } ∧ (headsN f)[i]? = some l.head ∧ (loops0 f)[i]? = some (loopOf f l.head) := by
  unfold loopsF at h
  rw [List.getElem?_mapIdx] at h
  cases hx : (loops0 f)[i]? with
  | none => rw [hx] at h; cases h
  | some y =>
    rw [hx] at h
    cases h
    obtain ⟨h1, h2⟩ := loops0_at hx
    refine ⟨?_, h2, by rw [← h1]⟩
    obtain ⟨a, b, c, d, e⟩ := y
    injection h1 with _ q1 q2 q3 _
    show (⟨a, b, c, d, _⟩ : LoopD) = ⟨a, bodyN f a, latN f a, exitN f a, _⟩
    rw [q1, q2, q3]
theorem loopsF_len (f : FuncD) : (loopsF f).length = (headsN f).length := by unfold loopsF loops0; rw [List.length_mapIdx, List.length_map]
theorem loops0_len (f : FuncD) : (loops0 f).length = (headsN f).length := by unfold loops0; rw [List.length_map]
theorem nest_law {f : FuncD} {O : List Nat} (hO : IsOrder f O) (hall : ∀ d, d < f.blocks.length → Way (toB f) (-1) d) {i : Nat} {l : LoopD} (hl : (loopsF f)[i]? = some l) :
    l.head ∈ l.blocks ∧ l.latches ≠ [] ∧ (∀ k, (loopsF f)[i - 1]? = some k → 0 < i → k.head < l.head) ∧ (∀ p ∈ l.latches, p ∈ l.blocks ∧ l.head ∈ toB f p) ∧
      (∀ k m, k < i → (loopsF f)[k]? = some m → l.blocks.countP (fun x => m.blocks.contains x) = 0 ∨ l.blocks.countP (fun x => m.blocks.contains x) = l.blocks.length ∨ l.blocks.countP (fun x => m.blocks.contains x) = m.blocks.length) ∧
      (l.parent < 0 ∨ ∃ (p : Nat) (m : LoopD), l.parent = p ∧ (loopsF f)[p]? = some m ∧ l.blocks.length < m.blocks.length ∧ l.head ∈ m.blocks) := by
  obtain ⟨e, hh, h0⟩ := loopsF_at hl
  obtain ⟨hlt, hne⟩ := mem_headsN.1 (List.mem_of_getElem? hh)
  have eb : l.blocks = bodyN f l.head := by rw [e]; rfl
  have el : l.latches = latN f l.head := by rw [e]; rfl
  have ep : l.parent = parentN (loops0 f) i := by rw [e]
  have rise := headsN_rise f
  have other : ∀ {k : Nat} {m : LoopD}, (loopsF f)[k]? = some m → k ≠ i → m.blocks = bodyN f m.head ∧ m.head < f.blocks.length ∧ m.head ≠ l.head ∧ (loops0 f)[k]? = some (loopOf f m.head) := fun {k m} hm hki => by
    obtain ⟨e2, hh2, h02⟩ := loopsF_at hm
    refine ⟨by rw [e2]; rfl, (mem_headsN.1 (List.mem_of_getElem? hh2)).1, fun e3 => hki ?_, h02⟩
    rw [e3] at hh2
    obtain ⟨k1, k2⟩ := List.getElem?_eq_some_iff.1 hh
    obtain ⟨k3, k4⟩ := List.getElem?_eq_some_iff.1 hh2
    have hnd : (headsN f).Nodup := rise.imp (fun h => Nat.ne_of_lt h)
    exact (List.getElem_inj hnd).1 (by rw [k4, k2])
  refine ⟨by rw [eb]; exact (mem_bodyN hlt).2 .head, by rw [el]; exact hne, fun k hk hi => ?_, fun p hp => ?_, fun k m hk hm => ?_, ?_⟩
  · obtain ⟨_, hh2, _⟩ := loopsF_at hk
    obtain ⟨k1, k2⟩ := List.getElem?_eq_some_iff.1 hh
    obtain ⟨k3, k4⟩ := List.getElem?_eq_some_iff.1 hh2
    have := List.pairwise_iff_getElem.1 rise (i - 1) i k3 k1 (by omega)
    rw [k4, k2] at this
    exact this
  · rw [el] at hp
    exact ⟨by rw [eb]; exact (mem_bodyN hlt).2 (.latch hp), (mem_latN.1 hp).1⟩
  · obtain ⟨eb2, hlt2, hne2, _⟩ := other hm (by omega)
    rw [eb, eb2]
    by_cases hx : ∃ x, InL f l.head x ∧ InL f m.head x
    · obtain ⟨x, x1, x2⟩ := hx
      rcases loops_nest hO hall hlt hlt2 (fun e => hne2 e.symm) x1 x2 with h | h
      · exact .inr (.inr (count_within (bodyN_nodup _ _) (bodyN_nodup _ _) fun b hb => (mem_bodyN hlt).2 (h b ((mem_bodyN hlt2).1 hb))))
      · exact .inr (.inl (count_all fun b hb => (mem_bodyN hlt2).2 (h b ((mem_bodyN hlt).1 hb))))
    · refine .inl (List.countP_eq_zero.2 fun b hb hc => hx ⟨b, (mem_bodyN hlt).1 hb, (mem_bodyN hlt2).1 (by simpa using hc)⟩)
  · rcases parent_is (loops0 f) i with h | ⟨h1, h2, h3, h4⟩
    · rw [ep, h]; exact .inl (by decide)
    · obtain ⟨p, hp⟩ : ∃ p : Nat, parentN (loops0 f) i = p := ⟨(parentN (loops0 f) i).toNat, by omega⟩
      rw [hp] at h1 h2 h3 h4
      rw [Int.toNat_natCast] at h3 h4
      have hpl : p < (loopsF f).length := by rw [loopsF_len, ← loops0_len]; omega
      obtain ⟨m, hm⟩ : ∃ m, (loopsF f)[p]? = some m := ⟨_, List.getElem?_eq_getElem hpl⟩
      obtain ⟨eb2, hlt2, hne2, h02⟩ := other hm h3
      have hw : ∀ b, InL f l.head b → InL f m.head b := fun b hb => by
        unfold withinB at h4
        rw [h0, h02] at h4
        have := List.all_eq_true.1 h4 b ((mem_bodyN hlt).2 hb)
        exact (mem_bodyN hlt2).1 (by simpa [loopOf] using this)
      obtain ⟨k1, k2⟩ := loops_less hO hall hlt hlt2 (fun e => hne2 e.symm) hw
      exact .inr ⟨p, m, by rw [ep, hp], hm, by rw [eb, eb2]; exact k1, by rw [eb2]; exact (mem_bodyN hlt2).2 k2⟩
end Go.Proofs.Ytjmikinbdclfbaa
