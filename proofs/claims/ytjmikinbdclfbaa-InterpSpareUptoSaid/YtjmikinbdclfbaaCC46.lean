/- What the claim needs, part 46. -/
import Derived.Test.YtjmikinbdclfbaaCC45
namespace Go.Proofs.Ytjmikinbdclfbaa
set_option linter.unusedSimpArgs false
set_option linter.unusedVariables false
open Go.RowKit
set_option maxHeartbeats 12800000 in
set_option maxRecDepth 100000 in
theorem walkSpare {w : World} {v u x : Value} (f : FuncD) (i : InputD) (more : List Int) (hv : FuncV w v f) (hi : InputV w u i) (hm : Ints w x more) (hlen : i.args.length + more.length ≤ 4000000) (hlen2 : i.arrays.length ≤ 4000000) :
    Calls Try.prog 5 #[v, u, x] w fun e w' => e = .returned (.bool true) ∧ Below w.heap.size w w' := by
  have HV := Lib.hid hv
  have HI := Lib.hid hi
  have HM := Lib.hid hm
  obtain ⟨ap, cp, ab, cb, rfl, -, -, -, -⟩ := hv.form
  obtain ⟨ua, ub, rfl, hua, hub⟩ := hi
  have HUA := Lib.hid hua
  have HUB := Lib.hid hub
  obtain ⟨aa, ca, rfl⟩ := hua.form
  obtain ⟨am, cm, rfl⟩ := hm.form
  obtain ⟨vs, b5, c5, bb, bo, rfl, -, -, -, -, -, -⟩ := hub.parts
  have HLEN := Lib.hid (And.intro hlen hlen2)
  obtain ⟨np, hnp⟩ : ∃ np, np = f.params.length := ⟨_, rfl⟩
  obtain ⟨ar, har⟩ : ∃ ar, ar = f.arrays := ⟨_, rfl⟩
  obtain ⟨la, hla⟩ : ∃ la, la = i.args.length := ⟨_, rfl⟩
  obtain ⟨lb, hlb⟩ : ∃ lb, lb = i.arrays.length := ⟨_, rfl⟩
  obtain ⟨lm, hlm⟩ : ∃ lm, lm = more.length := ⟨_, rfl⟩
  have HDIM := Lib.hid (show np = f.params.length ∧ ar = f.arrays ∧ la = i.args.length ∧ lb = i.arrays.length ∧ lm = more.length from ⟨hnp, har, hla, hlb, hlm⟩)
  rw [← hnp, ← har] at HV
  rw [← hla, ← hlb] at HI
  rw [← hla] at HUA
  rw [← hlb] at HUB
  rw [← hlm] at HM
  rw [← hnp, ← har, ← hla, ← hlb, ← hlm]
  clear hua hub hv hm hlen hlen2 hnp har hla hlb hlm
  go_enter Try.func5, Try.ntmps5
  go_upto_region 1 with (fail)
  have B3 : Hid (Box ((w.alloc (.cells #[.slice ap np cp, .int .i64 ar, .int .i64 f.cells, .slice ab f.blocks.length cb] 31)).alloc (.cells #[.slice aa la ca, .slice b5 lb c5] 34)) (w.heap.size) #[.slice ap np cp, .int .i64 ar, .int .i64 f.cells, .slice ab f.blocks.length cb]) := Lib.hid (by simpa using ((Box.new w #[.slice ap np cp, .int .i64 ar, .int .i64 f.cells, .slice ab f.blocks.length cb] 31).alloc _))
  have B4 : Hid (Box ((w.alloc (.cells #[.slice ap np cp, .int .i64 ar, .int .i64 f.cells, .slice ab f.blocks.length cb] 31)).alloc (.cells #[.slice aa la ca, .slice b5 lb c5] 34)) (w.heap.size + 1) #[.slice aa la ca, .slice b5 lb c5]) := Lib.hid (by simpa using (Box.new (w.alloc (.cells #[.slice ap np cp, .int .i64 ar, .int .i64 f.cells, .slice ab f.blocks.length cb] 31)) #[.slice aa la ca, .slice b5 lb c5] 34))
  have HW : Hid (Below w.heap.size w ((w.alloc (.cells #[.slice ap np cp, .int .i64 ar, .int .i64 f.cells, .slice ab f.blocks.length cb] 31)).alloc (.cells #[.slice aa la ca, .slice b5 lb c5] 34))) := Lib.hid (((Below.refl _ _).alloc (Nat.le_refl _) _).alloc (by simp) _)
  generalize ((w.alloc (.cells #[.slice ap np cp, .int .i64 ar, .int .i64 f.cells, .slice ab f.blocks.length cb] 31)).alloc (.cells #[.slice aa la ca, .slice b5 lb c5] 34)) = wv at *
  obtain ⟨lB3, cB3, fB3⟩ := B3.out
  obtain ⟨lB4, cB4, fB4⟩ := B4.out
  have gwv : w.heap.size + 1 < wv.heap.size := lB4
  obtain ⟨news, hn1, hn2, hn3⟩ := HUB.out
  rw [← HDIM.out.2.2.2.1] at hn1 hn2 hn3
  have HN1 := Lib.hid hn1
  have HN2 := Lib.hid hn2
  have HN3 := Lib.hid (fun (j : Nat) (hj : j < lb) => (hn3 j hj).below HW.out)
  clear hn1 hn2 hn3
  by_cases hA : la < np ∨ (lb : Int) < ar
  · have hv1 : Hid (Below wv.heap.size wv (wv.alloc (.cells #[.slice aa la ca, .slice b5 lb c5] 34))) := Lib.hid ((Below.refl _ _).alloc (Nat.le_refl _) _)
    by_cases h1 : la < np
    · clear hA
      go_upto_region 3 with (fail)
      have nB7B3 : wv.heap.size ≠ w.heap.size := fun e => by have := lB3; omega
      have nB3B7 : w.heap.size ≠ wv.heap.size := fun e => nB7B3 e.symm
      have nB7B4 : wv.heap.size ≠ w.heap.size + 1 := fun e => by have := lB4; omega
      have nB4B7 : w.heap.size + 1 ≠ wv.heap.size := fun e => nB7B4 e.symm
      have B3_ : Box (wv.alloc (.cells #[.slice aa la ca, .slice b5 lb c5] 34)) (w.heap.size) #[.slice ap np cp, .int .i64 ar, .int .i64 f.cells, .slice ab f.blocks.length cb] := by simpa using (B3.out.alloc _)
      have B4_ : Box (wv.alloc (.cells #[.slice aa la ca, .slice b5 lb c5] 34)) (w.heap.size + 1) #[.slice aa la ca, .slice b5 lb c5] := by simpa using (B4.out.alloc _)
      have B7_ : Box (wv.alloc (.cells #[.slice aa la ca, .slice b5 lb c5] 34)) (wv.heap.size) #[.slice aa la ca, .slice b5 lb c5] := by simpa using (Box.new wv #[.slice aa la ca, .slice b5 lb c5] 34)
      have HW_ : Below w.heap.size w (wv.alloc (.cells #[.slice aa la ca, .slice b5 lb c5] 34)) := (HW.out.alloc (by first | exact Nat.le_refl _ | exact HW.out.size | (simp only [World.size_alloc, World.size_setCell]; have := HW.out.size; omega)) _)
      clear lB3 cB3 fB3 lB4 cB4 fB4
      clear B3 B4 HW
      generalize (wv.alloc (.cells #[.slice aa la ca, .slice b5 lb c5] 34)) = w1 at *
      have B3 := Lib.hid B3_
      clear B3_
      have B4 := Lib.hid B4_
      clear B4_
      have B7 := Lib.hid B7_
      clear B7_
      have HW := Lib.hid HW_
      clear HW_
      obtain ⟨lB3, cB3, fB3⟩ := B3.out
      obtain ⟨lB4, cB4, fB4⟩ := B4.out
      obtain ⟨lB7, cB7, fB7⟩ := B7.out
      have HW1 := HW
      have B31 := B3
      have B41 := B4
      have HV1 : Hid (Below wv.heap.size wv w1) := Lib.hid hv1.out
      have gw1 : wv.heap.size < w1.heap.size := lB7
      go_upto_region 4 with (at_builtin; go_loud (refine wpList_iclone rfl _ _ rfl rfl rfl (HUA.out.below HW.out) ?_); intro a7 c7 w3 S7 hO hF hB; rw [← HDIM.out.2.2.1] at hO ⊢; obtain ⟨ly, cy, fy⟩ := B7.out.later hB)
      clear ly cy fy
      have HH7 : Hid (Holds [wv.heap.size] w1.heap.size w3 S7 (fun W => OInts W S7 (.slice a7 la c7) i.args)) := Lib.hid ((holds_ints hO hF).low (fun b hb => by have := B7.out.lt; simp at hb; omega))
      have HOF : Hid (OffF (fun k => k = wv.heap.size) w1 w3) := Lib.hid (Off.of_below hB _)
      clear hO hF
      clear lB3 cB3 fB3 lB4 cB4 fB4 lB7 cB7 fB7
      replace B3 := Lib.hid (B3.out.later hB)
      replace B4 := Lib.hid (B4.out.later hB)
      replace B7 := Lib.hid (B7.out.later hB)
      replace HW := Lib.hid (HW.out.trans (hB.mono HW.out.size))
      clear hB
      obtain ⟨lB3, cB3, fB3⟩ := B3.out
      obtain ⟨lB4, cB4, fB4⟩ := B4.out
      obtain ⟨lB7, cB7, fB7⟩ := B7.out


      have B3_ : Box (w3.setCell ⟨wv.heap.size, 0, none⟩ (.slice a7 la c7)) (w.heap.size) #[.slice ap np cp, .int .i64 ar, .int .i64 f.cells, .slice ab f.blocks.length cb] := by simpa using (B3.out.other (p := ⟨wv.heap.size, 0, none⟩) (.slice a7 la c7) (by first | assumption | (simp; done) | omega | (dsimp only; omega)))
      have B4_ : Box (w3.setCell ⟨wv.heap.size, 0, none⟩ (.slice a7 la c7)) (w.heap.size + 1) #[.slice aa la ca, .slice b5 lb c5] := by simpa using (B4.out.other (p := ⟨wv.heap.size, 0, none⟩) (.slice a7 la c7) (by first | assumption | (simp; done) | omega | (dsimp only; omega)))
      have B7_ : Box (w3.setCell ⟨wv.heap.size, 0, none⟩ (.slice a7 la c7)) (wv.heap.size) #[(.slice a7 la c7), .slice b5 lb c5] := by simpa using (B7.out.set 0 (.slice a7 la c7))
      have HH7_ := (HH7.out.other (p := ⟨wv.heap.size, 0, none⟩) (.slice a7 la c7) (by simp))
      have HOF_ := (HOF.out.other (p := ⟨wv.heap.size, 0, none⟩) (.slice a7 la c7) (by simp))
      have HW_ : Below w.heap.size w (w3.setCell ⟨wv.heap.size, 0, none⟩ (.slice a7 la c7)) := (HW.out.setCell (p := ⟨wv.heap.size, 0, none⟩) (by first | assumption | omega | (dsimp only; omega) | (have := HW.out.size; omega) | (simp; done) | (simp; omega)) (.slice a7 la c7))
      clear lB3 cB3 fB3 lB4 cB4 fB4 lB7 cB7 fB7
      clear B3 B4 B7 HH7 HOF HW
      generalize (w3.setCell ⟨wv.heap.size, 0, none⟩ (.slice a7 la c7)) = w4 at *
      have B3 := Lib.hid B3_
      clear B3_
      have B4 := Lib.hid B4_
      clear B4_
      have B7 := Lib.hid B7_
      clear B7_
      have HH7 := Lib.hid HH7_
      clear HH7_
      have HOF := Lib.hid HOF_
      clear HOF_
      have HW := Lib.hid HW_
      clear HW_
      obtain ⟨lB3, cB3, fB3⟩ := B3.out
      obtain ⟨lB4, cB4, fB4⟩ := B4.out
      obtain ⟨lB7, cB7, fB7⟩ := B7.out
      clear lB3 cB3 fB3 lB4 cB4 fB4 lB7 cB7 fB7
      go_loopw [30] (fun _ wr => ∃ (n m : Nat) (a : Option Addr) (c : Nat) (S : Foot), m = la + n ∧ (n = 0 ∨ m ≤ np) ∧ Box wr wv.heap.size #[.slice a m c, .slice b5 lb c5] ∧ Holds [wv.heap.size] w1.heap.size wr S (fun W => OInts W S (.slice a m c) (i.args ++ List.replicate n 0)) ∧ OffF (fun k => k = wv.heap.size) w1 wr) (fun _ W => np - lenAt W wv.heap.size 0)
      case atStart => exact ⟨0, la, a7, c7, S7, rfl, .inl rfl, B7.out, by rw [List.replicate_zero, List.append_nil]; exact HH7.out, HOF.out⟩
      case round =>
        obtain ⟨n, m, a, c, S, hm, hn, hbx, hS, ho⟩ := hrel
        clear HOF
        have HMM := Lib.hid hm
        have HNN := Lib.hid hn
        have HHS := Lib.hid hS
        have HOF := Lib.hid ho
        have HW : Hid (Below w.heap.size w wr) := Lib.hid (HW1.out.trans (ho.below HW1.out.size (fun k _ h => by have h9 : k = wv.heap.size := h; omega)))
        have B3 := Lib.hid (B31.out.off ho (fun h => by have h9 : w.heap.size = wv.heap.size := h; omega))
        have B4 := Lib.hid (B41.out.off ho (fun h => by have h9 : w.heap.size + 1 = wv.heap.size := h; omega))
        have B7 := Lib.hid hbx
        clear hm hn hbx hS ho HH7






        obtain ⟨lB3, cB3, fB3⟩ := B3.out
        obtain ⟨lB4, cB4, fB4⟩ := B4.out
        obtain ⟨lB7, cB7, fB7⟩ := B7.out
        by_cases hlt : m < np ∧ np ≤ 16
        · obtain ⟨h1, h2⟩ := hlt
          have HLN : Hid ((i.args ++ List.replicate n 0).length = m) := Lib.hid (by rw [List.length_append, List.length_replicate]; have := HMM.out; have := HDIM.out; omega)
          have hBOLD := B7
          have hnb : ¬ S wv.heap.size := fun h => HHS.out.free _ h (by simp)
          go_wp2_with (at_builtin; go_loud (refine wpList_iapp rfl _ _ rfl rfl rfl HLN.out (HHS.out.alloc _).now (Box.new _ _ _) ⟨by decide, by decide⟩ (by omega) ?_); intro g cap w2 hO hG hof; obtain ⟨ly, cy, fy⟩ := (B7.out.alloc (.cells #[.int .i64 0] 3)).off hof hnb)
          clear ly cy fy
          have hnb3 : ¬ S w.heap.size := fun h => by have := HHS.out.base _ h; have := B31.out.lt; omega
          have hnb4 : ¬ S (w.heap.size + 1) := fun h => by have := HHS.out.base _ h; have := B41.out.lt; omega
          clear lB3 cB3 fB3 lB4 cB4 fB4 lB7 cB7 fB7
          replace B3 := Lib.hid ((B3.out.alloc (.cells #[.int .i64 0] 3)).off hof hnb3)
          replace B4 := Lib.hid ((B4.out.alloc (.cells #[.int .i64 0] 3)).off hof hnb4)
          replace B7 := Lib.hid ((B7.out.alloc (.cells #[.int .i64 0] 3)).off hof hnb)
          have hgb : ∀ k, Foot.one g k → w1.heap.size ≤ k := fun k hk => by
            cases hk
            rcases hG with h | h
            · exact HHS.out.base g h
            · have := HOF.out.size; simp at h; omega
          have HS2 : Hid (Holds [wv.heap.size] w1.heap.size w2 (Foot.one g) (fun W => OInts W (Foot.one g) (.slice (some ⟨g, 0, none⟩) (m + 1) cap) (i.args ++ List.replicate (n + 1) 0))) := Lib.hid (by
            rw [List.replicate_succ', ← List.append_assoc]
            exact (holds_ints hO hgb).low (fun b hb => by simp at hb; omega))
          have HO3 : Hid (OffF (fun k => k = wv.heap.size) w1 w2) := Lib.hid (Off.grow (HOF.out.alloc _) hof (fun k hk => .inr (HHS.out.base k hk)))
          clear hO hG hof hgb hnb hnb3 hnb4
          go_roundw
          case rel => exact ⟨n + 1, m + 1, some ⟨g, 0, none⟩, cap, Foot.one g, by have := HMM.out; omega, .inr (by omega), by simpa using B7.out.set 0 (.slice (some ⟨g, 0, none⟩) (m + 1) cap), HS2.out.other _ (by simp), HO3.out.other _ (.inl rfl)⟩
          case measure =>
            rw [lenAt_box (n := m + 1) (a := some ⟨g, 0, none⟩) (c := cap) (B7.out.set 0 (.slice (some ⟨g, 0, none⟩) (m + 1) cap)) rfl, lenAt_box (n := m) (a := a) (c := c) hBOLD.out rfl]
            omega
        · have hcs : (¬ m < np) ∨ (m < np ∧ ¬ np ≤ 16) := by
            by_cases h : m < np
            · exact .inr ⟨h, fun h2 => hlt ⟨h, h2⟩⟩
            · exact .inl h
          clear hlt
          rcases hcs with q1 | ⟨q1, q2⟩
          · go_upto_region 6 with (fail)
            clear q1
            have HWA := HW
            have B3A := B3
            have B4A := B4
            have B7A := B7
            obtain ⟨wA, hwA⟩ : ∃ wA, wA = wr := ⟨_, rfl⟩
            have HHA : Hid (Holds [wv.heap.size] w1.heap.size wA S (fun W => OInts W S (.slice a m c) (i.args ++ List.replicate n 0))) := Lib.hid (by rw [hwA]; exact HHS.out)
            have HOF1 : Hid (OffF (fun k => k = wv.heap.size) w1 wA) := Lib.hid (by rw [hwA]; exact HOF.out)
            rw [← hwA] at HWA B3A B4A B7A
            clear HHS HOF
            go_upto_region 7 with (at_builtin; go_loud (refine wpList_rclone (w0 := wv) rfl _ _ rfl HDIM.out.2.2.2.1.symm rfl rfl (HN2.out.below HW.out) HN1.out HN3.out (by have := HLEN.out; have := HDIM.out; omega) ?_); intro a8 c8 w2 S8 hO hF hB; obtain ⟨ly, cy, fy⟩ := B7.out.later hB)
            clear ly cy fy
            have HH8 : Hid (Holds [wv.heap.size] wA.heap.size w2 S8 (fun W => ORefs wv W S8 (.slice a8 lb c8) i.arrays)) := Lib.hid (by rw [hwA]; exact (holds_refs hO hF).low (fun b hb => by simp at hb; omega))
            have HOA : Hid (OffF (fun k => k = wv.heap.size) wA w2) := Lib.hid (by rw [hwA]; exact Off.of_below hB _)
            clear hO hF hwA
            clear lB3 cB3 fB3 lB4 cB4 fB4 lB7 cB7 fB7
            replace B3 := Lib.hid (B3.out.later hB)
            replace B4 := Lib.hid (B4.out.later hB)
            replace B7 := Lib.hid (B7.out.later hB)
            replace HW := Lib.hid (HW.out.trans (hB.mono HW.out.size))
            clear hB
            obtain ⟨lB3, cB3, fB3⟩ := B3.out
            obtain ⟨lB4, cB4, fB4⟩ := B4.out
            obtain ⟨lB7, cB7, fB7⟩ := B7.out


            have B3_ : Box (w2.setCell ⟨wv.heap.size, 1, none⟩ (.slice a8 lb c8)) (w.heap.size) #[.slice ap np cp, .int .i64 ar, .int .i64 f.cells, .slice ab f.blocks.length cb] := by simpa using (B3.out.other (p := ⟨wv.heap.size, 1, none⟩) (.slice a8 lb c8) (by first | assumption | (simp; done) | omega | (dsimp only; omega)))
            have B4_ : Box (w2.setCell ⟨wv.heap.size, 1, none⟩ (.slice a8 lb c8)) (w.heap.size + 1) #[.slice aa la ca, .slice b5 lb c5] := by simpa using (B4.out.other (p := ⟨wv.heap.size, 1, none⟩) (.slice a8 lb c8) (by first | assumption | (simp; done) | omega | (dsimp only; omega)))
            have B7_ : Box (w2.setCell ⟨wv.heap.size, 1, none⟩ (.slice a8 lb c8)) (wv.heap.size) #[.slice a m c, (.slice a8 lb c8)] := by simpa using (B7.out.set 1 (.slice a8 lb c8))
            have HH8_ := (HH8.out.other (p := ⟨wv.heap.size, 1, none⟩) (.slice a8 lb c8) (by simp))
            have HOA_ := (HOA.out.other (p := ⟨wv.heap.size, 1, none⟩) (.slice a8 lb c8) (by simp))
            have HW_ : Below w.heap.size w (w2.setCell ⟨wv.heap.size, 1, none⟩ (.slice a8 lb c8)) := (HW.out.setCell (p := ⟨wv.heap.size, 1, none⟩) (by first | assumption | omega | (dsimp only; omega) | (have := HW.out.size; omega) | (simp; done) | (simp; omega)) (.slice a8 lb c8))
            clear lB3 cB3 fB3 lB4 cB4 fB4 lB7 cB7 fB7
            clear B3 B4 B7 HH8 HOA HW
            generalize (w2.setCell ⟨wv.heap.size, 1, none⟩ (.slice a8 lb c8)) = w5 at *
            have B3 := Lib.hid B3_
            clear B3_
            have B4 := Lib.hid B4_
            clear B4_
            have B7 := Lib.hid B7_
            clear B7_
            have HH8 := Lib.hid HH8_
            clear HH8_
            have HOA := Lib.hid HOA_
            clear HOA_
            have HW := Lib.hid HW_
            clear HW_
            obtain ⟨lB3, cB3, fB3⟩ := B3.out
            obtain ⟨lB4, cB4, fB4⟩ := B4.out
            obtain ⟨lB7, cB7, fB7⟩ := B7.out
            clear lB3 cB3 fB3 lB4 cB4 fB4 lB7 cB7 fB7
            go_loopw [53] (fun _ wr => ∃ (q l : Nat) (d : Option Addr) (e : Nat) (T : Foot), l = lb + q ∧ (q = 0 ∨ (l : Int) ≤ ar) ∧ Box wr wv.heap.size #[.slice a m c, .slice d l e] ∧ Holds [wv.heap.size] wA.heap.size wr T (fun W => ORefs wv W T (.slice d l e) (i.arrays ++ List.replicate q [])) ∧ OffF (fun k => k = wv.heap.size) wA wr) (fun _ W => ar.toNat - lenAt W wv.heap.size 1)
            case atStart => exact ⟨0, lb, a8, c8, S8, rfl, .inl rfl, B7.out, by rw [List.replicate_zero, List.append_nil]; exact HH8.out, HOA.out⟩
            case round =>
              obtain ⟨q, l, d, e, T, hl, hq, hbx, hT, ho⟩ := hrel
              have HLL := Lib.hid hl
              have HQQ := Lib.hid hq
              have HHT := Lib.hid hT
              have HOQ := Lib.hid ho
              have HW : Hid (Below w.heap.size w wr) := Lib.hid (HWA.out.trans (ho.below HWA.out.size (fun k _ h => by have h9 : k = wv.heap.size := h; omega)))
              have B3 := Lib.hid (B3A.out.off ho (fun h => by have h9 : w.heap.size = wv.heap.size := h; omega))
              have B4 := Lib.hid (B4A.out.off ho (fun h => by have h9 : w.heap.size + 1 = wv.heap.size := h; omega))
              have B7 := Lib.hid hbx
              clear hl hq hbx hT ho HH8 HOA






              obtain ⟨lB3, cB3, fB3⟩ := B3.out
              obtain ⟨lB4, cB4, fB4⟩ := B4.out
              obtain ⟨lB7, cB7, fB7⟩ := B7.out
              by_cases hlt : (l : Int) < ar ∧ ar ≤ 8
              · obtain ⟨h1, h2⟩ := hlt
                have HLN : Hid ((i.arrays ++ List.replicate q []).length = l) := Lib.hid (by rw [List.length_append, List.length_replicate]; have := HLL.out; have := HDIM.out; omega)
                have hBOLD := B7
                have q1 : decide ((l : Int) < ar) = true := by simpa using h1
                have q2 : decide (ar ≤ 8) = true := by simpa using h2
                have hnb : ¬ T wv.heap.size := fun h => HHT.out.free _ h (by simp)
                go_wp2_with (at_builtin; go_loud (refine wpList_rsnoc (w0 := wv) rfl _ _ rfl HLN.out rfl rfl (HHT.out.alloc _).now (Box.new _ _ _) (by omega) ?_); intro d2 e2 w3 T2 hO hG hof; obtain ⟨ly, cy, fy⟩ := (B7.out.alloc (.cells #[.slice none 0 0] 22)).off hof hnb)
                clear ly cy fy
                have hnb3 : ¬ T w.heap.size := fun h => by have := HHT.out.base _ h; have := HWA.out.size; have := B3A.out.lt; omega
                have hnb4 : ¬ T (w.heap.size + 1) := fun h => by have := HHT.out.base _ h; have := B4A.out.lt; omega
                clear lB3 cB3 fB3 lB4 cB4 fB4 lB7 cB7 fB7
                clear q1 q2
                replace B3 := Lib.hid ((B3.out.alloc (.cells #[.slice none 0 0] 22)).off hof hnb3)
                replace B4 := Lib.hid ((B4.out.alloc (.cells #[.slice none 0 0] 22)).off hof hnb4)
                replace B7 := Lib.hid ((B7.out.alloc (.cells #[.slice none 0 0] 22)).off hof hnb)
                have hTb : ∀ k, T2 k → wA.heap.size ≤ k := fun k hk => by
                  rcases hG k hk with h | h
                  · exact HHT.out.base k h
                  · have := HOQ.out.size; simp at h; omega
                have HT2 : Hid (Holds [wv.heap.size] wA.heap.size w3 T2 (fun W => ORefs wv W T2 (.slice d2 (l + 1) e2) (i.arrays ++ List.replicate (q + 1) []))) := Lib.hid (by
                  rw [List.replicate_succ', ← List.append_assoc]
                  exact (holds_refs hO hTb).low (fun b hb => by have := B7A.out.lt; simp at hb; omega))
                have HO3 : Hid (OffF (fun k => k = wv.heap.size) wA w3) := Lib.hid (Off.grow (HOQ.out.alloc _) hof (fun k hk => .inr (HHT.out.base k hk)))
                clear hO hG hof hTb hnb hnb3 hnb4
                go_roundw
                case rel => exact ⟨q + 1, l + 1, d2, e2, T2, by have := HLL.out; omega, .inr (by omega), by simpa using B7.out.set 1 (.slice d2 (l + 1) e2), HT2.out.other _ (by simp), HO3.out.other _ (.inl rfl)⟩
                case measure =>
                  rw [lenAt_box (n := l + 1) (a := d2) (c := e2) (B7.out.set 1 (.slice d2 (l + 1) e2)) rfl, lenAt_box (n := l) (a := d) (c := e) hBOLD.out rfl]
                  omega
              · have hAA : Hid (OInts wr S (.slice a m c) (i.args ++ List.replicate n 0)) := Lib.hid (HHA.out.now.off HOQ.out (fun k hk h => HHA.out.free k hk (by have h9 : k = wv.heap.size := h; simp [h9])))
                have hfin : Hid (Below wv.heap.size wv wr) := Lib.hid (HV1.out.trans ((Off.grow HOF1.out HOQ.out (fun k hk => .inl hk)).below HV1.out.size (fun k _ h => by have h9 : k = wv.heap.size := h; omega)))
                have HWI : Hid (InputV wr (.agg #[.slice a m c, .slice d l e]) ⟨i.args ++ List.replicate n 0, i.arrays ++ List.replicate q []⟩) := Lib.hid ⟨_, _, rfl, hAA.out.ints, HHT.out.now.lists hfin.out⟩
                have HST : Hid (startS f i = startS f ⟨i.args ++ List.replicate n 0, i.arrays ++ List.replicate q []⟩) := Lib.hid (startS_eq (fun k hk => (getD_fill _ _ _ _).symm) (fun k hk => (getD_fill _ _ _ _).symm))
                clear hAA hfin
                have hcs : (decide ((l : Int) < ar) = false) ∨ (decide ((l : Int) < ar) = true ∧ decide (ar ≤ 8) = false) := by
                  by_cases h : (l : Int) < ar
                  · exact .inr ⟨by simpa using h, by simp; omega⟩
                  · exact .inl (by simpa using h)
                clear hlt
                rcases hcs with q1 | ⟨q1, q2⟩
                · go_upto_region 9 with (fail)
                  clear q1
                  refine Four.wp_region_grow (XF := (fun _ => Foot.none)) (I := (fun _ => True)) 11 (fun ν kz => match kz with | 0 => .const (.bool true) | 4 => .holds (fun u w' => Ran f i 500 u w') | 7 => .holds (fun u w' => Ran f ⟨i.args ++ List.replicate n 0, i.arrays ++ List.replicate q []⟩ 500 u w') | 8 => .const (.bool true) | _ => .plain) (by kernel_rfl) (by kernel_rfl) ?_ ?_ (fun _ _ h => h.elim) (fun _ _ _ _ => trivial) trivial ?_ (fun ν => ?_)
                  · (intro ν k; (try dsimp only); split <;> first | exact True.intro | (intro u w1 w2 hu hb; exact hu.later (hb.below (Nat.le_refl _) (fun _ _ ⟨_, _, h⟩ => h.elim))))
                  · (intro ν ν' k h; first | rfl | ((try dsimp only); split <;> first | rfl))
                  · (intro ν j B mk A h; (try dsimp only at h); split at h <;> first | (cases h; exact Nat.le_refl _) | cases h)
                  simp only [List.take_succ_cons, List.take_zero, List.drop_succ_cons, List.drop_zero]
                  refine Four.Grow.call (f := ?_) (args := ?_) rfl (fun wg => ?_) (fun wg hbg hdg => ?_) ?_
                  rotate_left 2
                  focus (first | (go_simp; done) | (go_simp; refine And.intro ?_ ?_ <;> with_reducible rfl) | (go_simp; with_reducible rfl))
                  focus exact Calls.mono (awake6) (fun e w2 ⟨he, hb2⟩ => ⟨_, he, rfl, hb2⟩)
                  simp only [Act.put, Known.val, List.setIfInBounds_toArray, List.set_cons_zero, List.set_cons_succ]
                  iterate 3 (refine Four.Grow.val (v := ?_) rfl rfl (fun wg hbg hdg => ?_) ?_; rotate_left; (focus ((obtain ⟨lg0, cg0, fg0⟩ := B3.out.off hbg.off (fun ⟨_, h⟩ => h.elim)); (obtain ⟨lg1, cg1, fg1⟩ := B4.out.off hbg.off (fun ⟨_, h⟩ => h.elim)); (obtain ⟨lg2, cg2, fg2⟩ := B7.out.off hbg.off (fun ⟨_, h⟩ => h.elim)); clear hbg hdg; first | (go_simp; done) | (go_simp; with_reducible rfl))); simp only [Act.put, List.setIfInBounds_toArray, List.set_cons_zero, List.set_cons_succ])
                  refine Four.Grow.call (f := ?_) (args := ?_) rfl (fun wg => ?_) (fun wg hbg hdg => ?_) ?_
                  rotate_left 2
                  focus (first | (go_simp; done) | (go_simp; refine And.intro ?_ ?_ <;> with_reducible rfl) | (go_simp; with_reducible rfl))
                  focus (exact (runC (HV.out.below (HW.out.trans ((pre0 hbg).mono HW.out.size))) (HI.out.below (HW.out.trans ((pre0 hbg).mono HW.out.size))) ⟨by decide, by decide⟩).mono (fun e w2 ⟨v, t, he, hp, ht, hb⟩ => ⟨v, he, ⟨t, hp, ht⟩, hb⟩))
                  simp only [Act.put, Known.val, List.setIfInBounds_toArray, List.set_cons_zero, List.set_cons_succ]
                  iterate 2 (refine Four.Grow.val (v := ?_) rfl rfl (fun wg hbg hdg => ?_) ?_; rotate_left; (focus ((obtain ⟨lg0, cg0, fg0⟩ := B3.out.off hbg.off (fun ⟨_, h⟩ => h.elim)); (obtain ⟨lg1, cg1, fg1⟩ := B4.out.off hbg.off (fun ⟨_, h⟩ => h.elim)); (obtain ⟨lg2, cg2, fg2⟩ := B7.out.off hbg.off (fun ⟨_, h⟩ => h.elim)); clear hbg hdg; first | (go_simp; done) | (go_simp; with_reducible rfl))); simp only [Act.put, List.setIfInBounds_toArray, List.set_cons_zero, List.set_cons_succ])
                  refine Four.Grow.call (f := ?_) (args := ?_) rfl (fun wg => ?_) (fun wg hbg hdg => ?_) ?_
                  rotate_left 2
                  focus (first | (go_simp; done) | (go_simp; refine And.intro ?_ ?_ <;> with_reducible rfl) | (go_simp; with_reducible rfl))
                  focus (exact (runC (HV.out.below (HW.out.trans ((pre0 hbg).mono HW.out.size))) (HWI.out.below (pre0 hbg)) ⟨by decide, by decide⟩).mono (fun e w2 ⟨v, t, he, hp, ht, hb⟩ => ⟨v, he, ⟨t, hp, ht⟩, hb⟩))
                  simp only [Act.put, Known.val, List.setIfInBounds_toArray, List.set_cons_zero, List.set_cons_succ]
                  refine Four.Grow.call (f := ?_) (args := ?_) rfl (fun wg => ?_) (fun wg hbg hdg => ?_) ?_
                  rotate_left 2
                  focus (first | (go_simp; done) | (go_simp; refine And.intro ?_ ?_ <;> with_reducible rfl) | (go_simp; with_reducible rfl))
                  focus exact Calls.mono ((same_of_runs HST.out (hdg 4 (by kernel_rfl)) (hdg 7 (by kernel_rfl)))) (fun e w2 ⟨he, hb2⟩ => ⟨_, he, rfl, hb2⟩)
                  simp only [Act.put, Known.val, List.setIfInBounds_toArray, List.set_cons_zero, List.set_cons_succ]
                  iterate 2 (refine Four.Grow.val (v := ?_) rfl rfl (fun wg hbg hdg => ?_) ?_; rotate_left; (focus ((obtain ⟨lg0, cg0, fg0⟩ := B3.out.off hbg.off (fun ⟨_, h⟩ => h.elim)); (obtain ⟨lg1, cg1, fg1⟩ := B4.out.off hbg.off (fun ⟨_, h⟩ => h.elim)); (obtain ⟨lg2, cg2, fg2⟩ := B7.out.off hbg.off (fun ⟨_, h⟩ => h.elim)); clear hbg hdg; first | (go_simp; done) | (go_simp; with_reducible rfl))); simp only [Act.put, List.setIfInBounds_toArray, List.set_cons_zero, List.set_cons_succ])
                  intro wg hb hf hap
                  clear hap
                  clear lB3 cB3 fB3 lB4 cB4 fB4 lB7 cB7 fB7
                  replace B3 := Lib.hid (B3.out.off hb.1 (fun ⟨_, h⟩ => h.elim))
                  replace B4 := Lib.hid (B4.out.off hb.1 (fun ⟨_, h⟩ => h.elim))
                  replace B7 := Lib.hid (B7.out.off hb.1 (fun ⟨_, h⟩ => h.elim))
                  replace HW := Lib.hid (HW.out.trans (hb.1.below HW.out.size (fun _ _ ⟨_, h⟩ => h.elim)))
                  obtain ⟨lB3, cB3, fB3⟩ := B3.out
                  obtain ⟨lB4, cB4, fB4⟩ := B4.out
                  obtain ⟨lB7, cB7, fB7⟩ := B7.out
                  clear hf
                  go_wp2
                  go_ret
                  exact ⟨rfl, HW.out⟩
                · go_upto_region 9 with (fail)
                  clear q1 q2
                  refine Four.wp_region_grow (XF := (fun _ => Foot.none)) (I := (fun _ => True)) 11 (fun ν kz => match kz with | 0 => .const (.bool true) | 4 => .holds (fun u w' => Ran f i 500 u w') | 7 => .holds (fun u w' => Ran f ⟨i.args ++ List.replicate n 0, i.arrays ++ List.replicate q []⟩ 500 u w') | 8 => .const (.bool true) | _ => .plain) (by kernel_rfl) (by kernel_rfl) ?_ ?_ (fun _ _ h => h.elim) (fun _ _ _ _ => trivial) trivial ?_ (fun ν => ?_)
                  · (intro ν k; (try dsimp only); split <;> first | exact True.intro | (intro u w1 w2 hu hb; exact hu.later (hb.below (Nat.le_refl _) (fun _ _ ⟨_, _, h⟩ => h.elim))))
                  · (intro ν ν' k h; first | rfl | ((try dsimp only); split <;> first | rfl))
                  · (intro ν j B mk A h; (try dsimp only at h); split at h <;> first | (cases h; exact Nat.le_refl _) | cases h)
                  simp only [List.take_succ_cons, List.take_zero, List.drop_succ_cons, List.drop_zero]
                  refine Four.Grow.call (f := ?_) (args := ?_) rfl (fun wg => ?_) (fun wg hbg hdg => ?_) ?_
                  rotate_left 2
                  focus (first | (go_simp; done) | (go_simp; refine And.intro ?_ ?_ <;> with_reducible rfl) | (go_simp; with_reducible rfl))
                  focus exact Calls.mono (awake6) (fun e w2 ⟨he, hb2⟩ => ⟨_, he, rfl, hb2⟩)
                  simp only [Act.put, Known.val, List.setIfInBounds_toArray, List.set_cons_zero, List.set_cons_succ]
                  iterate 3 (refine Four.Grow.val (v := ?_) rfl rfl (fun wg hbg hdg => ?_) ?_; rotate_left; (focus ((obtain ⟨lg0, cg0, fg0⟩ := B3.out.off hbg.off (fun ⟨_, h⟩ => h.elim)); (obtain ⟨lg1, cg1, fg1⟩ := B4.out.off hbg.off (fun ⟨_, h⟩ => h.elim)); (obtain ⟨lg2, cg2, fg2⟩ := B7.out.off hbg.off (fun ⟨_, h⟩ => h.elim)); clear hbg hdg; first | (go_simp; done) | (go_simp; with_reducible rfl))); simp only [Act.put, List.setIfInBounds_toArray, List.set_cons_zero, List.set_cons_succ])
                  refine Four.Grow.call (f := ?_) (args := ?_) rfl (fun wg => ?_) (fun wg hbg hdg => ?_) ?_
                  rotate_left 2
                  focus (first | (go_simp; done) | (go_simp; refine And.intro ?_ ?_ <;> with_reducible rfl) | (go_simp; with_reducible rfl))
                  focus (exact (runC (HV.out.below (HW.out.trans ((pre0 hbg).mono HW.out.size))) (HI.out.below (HW.out.trans ((pre0 hbg).mono HW.out.size))) ⟨by decide, by decide⟩).mono (fun e w2 ⟨v, t, he, hp, ht, hb⟩ => ⟨v, he, ⟨t, hp, ht⟩, hb⟩))
                  simp only [Act.put, Known.val, List.setIfInBounds_toArray, List.set_cons_zero, List.set_cons_succ]
                  iterate 2 (refine Four.Grow.val (v := ?_) rfl rfl (fun wg hbg hdg => ?_) ?_; rotate_left; (focus ((obtain ⟨lg0, cg0, fg0⟩ := B3.out.off hbg.off (fun ⟨_, h⟩ => h.elim)); (obtain ⟨lg1, cg1, fg1⟩ := B4.out.off hbg.off (fun ⟨_, h⟩ => h.elim)); (obtain ⟨lg2, cg2, fg2⟩ := B7.out.off hbg.off (fun ⟨_, h⟩ => h.elim)); clear hbg hdg; first | (go_simp; done) | (go_simp; with_reducible rfl))); simp only [Act.put, List.setIfInBounds_toArray, List.set_cons_zero, List.set_cons_succ])
                  refine Four.Grow.call (f := ?_) (args := ?_) rfl (fun wg => ?_) (fun wg hbg hdg => ?_) ?_
                  rotate_left 2
                  focus (first | (go_simp; done) | (go_simp; refine And.intro ?_ ?_ <;> with_reducible rfl) | (go_simp; with_reducible rfl))
                  focus (exact (runC (HV.out.below (HW.out.trans ((pre0 hbg).mono HW.out.size))) (HWI.out.below (pre0 hbg)) ⟨by decide, by decide⟩).mono (fun e w2 ⟨v, t, he, hp, ht, hb⟩ => ⟨v, he, ⟨t, hp, ht⟩, hb⟩))
                  simp only [Act.put, Known.val, List.setIfInBounds_toArray, List.set_cons_zero, List.set_cons_succ]
                  refine Four.Grow.call (f := ?_) (args := ?_) rfl (fun wg => ?_) (fun wg hbg hdg => ?_) ?_
                  rotate_left 2
                  focus (first | (go_simp; done) | (go_simp; refine And.intro ?_ ?_ <;> with_reducible rfl) | (go_simp; with_reducible rfl))
                  focus exact Calls.mono ((same_of_runs HST.out (hdg 4 (by kernel_rfl)) (hdg 7 (by kernel_rfl)))) (fun e w2 ⟨he, hb2⟩ => ⟨_, he, rfl, hb2⟩)
                  simp only [Act.put, Known.val, List.setIfInBounds_toArray, List.set_cons_zero, List.set_cons_succ]
                  iterate 2 (refine Four.Grow.val (v := ?_) rfl rfl (fun wg hbg hdg => ?_) ?_; rotate_left; (focus ((obtain ⟨lg0, cg0, fg0⟩ := B3.out.off hbg.off (fun ⟨_, h⟩ => h.elim)); (obtain ⟨lg1, cg1, fg1⟩ := B4.out.off hbg.off (fun ⟨_, h⟩ => h.elim)); (obtain ⟨lg2, cg2, fg2⟩ := B7.out.off hbg.off (fun ⟨_, h⟩ => h.elim)); clear hbg hdg; first | (go_simp; done) | (go_simp; with_reducible rfl))); simp only [Act.put, List.setIfInBounds_toArray, List.set_cons_zero, List.set_cons_succ])
                  intro wg hb hf hap
                  clear hap
                  clear lB3 cB3 fB3 lB4 cB4 fB4 lB7 cB7 fB7
                  replace B3 := Lib.hid (B3.out.off hb.1 (fun ⟨_, h⟩ => h.elim))
                  replace B4 := Lib.hid (B4.out.off hb.1 (fun ⟨_, h⟩ => h.elim))
                  replace B7 := Lib.hid (B7.out.off hb.1 (fun ⟨_, h⟩ => h.elim))
                  replace HW := Lib.hid (HW.out.trans (hb.1.below HW.out.size (fun _ _ ⟨_, h⟩ => h.elim)))
                  obtain ⟨lB3, cB3, fB3⟩ := B3.out
                  obtain ⟨lB4, cB4, fB4⟩ := B4.out
                  obtain ⟨lB7, cB7, fB7⟩ := B7.out
                  clear hf
                  go_wp2
                  go_ret
                  exact ⟨rfl, HW.out⟩
          · go_upto_region 6 with (fail)
            clear q1 q2
            have HWA := HW
            have B3A := B3
            have B4A := B4
            have B7A := B7
            obtain ⟨wA, hwA⟩ : ∃ wA, wA = wr := ⟨_, rfl⟩
            have HHA : Hid (Holds [wv.heap.size] w1.heap.size wA S (fun W => OInts W S (.slice a m c) (i.args ++ List.replicate n 0))) := Lib.hid (by rw [hwA]; exact HHS.out)
            have HOF1 : Hid (OffF (fun k => k = wv.heap.size) w1 wA) := Lib.hid (by rw [hwA]; exact HOF.out)
            rw [← hwA] at HWA B3A B4A B7A
            clear HHS HOF
            go_upto_region 7 with (at_builtin; go_loud (refine wpList_rclone (w0 := wv) rfl _ _ rfl HDIM.out.2.2.2.1.symm rfl rfl (HN2.out.below HW.out) HN1.out HN3.out (by have := HLEN.out; have := HDIM.out; omega) ?_); intro a8 c8 w2 S8 hO hF hB; obtain ⟨ly, cy, fy⟩ := B7.out.later hB)
            clear ly cy fy
            have HH8 : Hid (Holds [wv.heap.size] wA.heap.size w2 S8 (fun W => ORefs wv W S8 (.slice a8 lb c8) i.arrays)) := Lib.hid (by rw [hwA]; exact (holds_refs hO hF).low (fun b hb => by simp at hb; omega))
            have HOA : Hid (OffF (fun k => k = wv.heap.size) wA w2) := Lib.hid (by rw [hwA]; exact Off.of_below hB _)
            clear hO hF hwA
            clear lB3 cB3 fB3 lB4 cB4 fB4 lB7 cB7 fB7
            replace B3 := Lib.hid (B3.out.later hB)
            replace B4 := Lib.hid (B4.out.later hB)
            replace B7 := Lib.hid (B7.out.later hB)
            replace HW := Lib.hid (HW.out.trans (hB.mono HW.out.size))
            clear hB
            obtain ⟨lB3, cB3, fB3⟩ := B3.out
            obtain ⟨lB4, cB4, fB4⟩ := B4.out
            obtain ⟨lB7, cB7, fB7⟩ := B7.out


            have B3_ : Box (w2.setCell ⟨wv.heap.size, 1, none⟩ (.slice a8 lb c8)) (w.heap.size) #[.slice ap np cp, .int .i64 ar, .int .i64 f.cells, .slice ab f.blocks.length cb] := by simpa using (B3.out.other (p := ⟨wv.heap.size, 1, none⟩) (.slice a8 lb c8) (by first | assumption | (simp; done) | omega | (dsimp only; omega)))
            have B4_ : Box (w2.setCell ⟨wv.heap.size, 1, none⟩ (.slice a8 lb c8)) (w.heap.size + 1) #[.slice aa la ca, .slice b5 lb c5] := by simpa using (B4.out.other (p := ⟨wv.heap.size, 1, none⟩) (.slice a8 lb c8) (by first | assumption | (simp; done) | omega | (dsimp only; omega)))
            have B7_ : Box (w2.setCell ⟨wv.heap.size, 1, none⟩ (.slice a8 lb c8)) (wv.heap.size) #[.slice a m c, (.slice a8 lb c8)] := by simpa using (B7.out.set 1 (.slice a8 lb c8))
            have HH8_ := (HH8.out.other (p := ⟨wv.heap.size, 1, none⟩) (.slice a8 lb c8) (by simp))
            have HOA_ := (HOA.out.other (p := ⟨wv.heap.size, 1, none⟩) (.slice a8 lb c8) (by simp))
            have HW_ : Below w.heap.size w (w2.setCell ⟨wv.heap.size, 1, none⟩ (.slice a8 lb c8)) := (HW.out.setCell (p := ⟨wv.heap.size, 1, none⟩) (by first | assumption | omega | (dsimp only; omega) | (have := HW.out.size; omega) | (simp; done) | (simp; omega)) (.slice a8 lb c8))
            clear lB3 cB3 fB3 lB4 cB4 fB4 lB7 cB7 fB7
            clear B3 B4 B7 HH8 HOA HW
            generalize (w2.setCell ⟨wv.heap.size, 1, none⟩ (.slice a8 lb c8)) = w5 at *
            have B3 := Lib.hid B3_
            clear B3_
            have B4 := Lib.hid B4_
            clear B4_
            have B7 := Lib.hid B7_
            clear B7_
            have HH8 := Lib.hid HH8_
            clear HH8_
            have HOA := Lib.hid HOA_
            clear HOA_
            have HW := Lib.hid HW_
            clear HW_
            obtain ⟨lB3, cB3, fB3⟩ := B3.out
            obtain ⟨lB4, cB4, fB4⟩ := B4.out
            obtain ⟨lB7, cB7, fB7⟩ := B7.out
            clear lB3 cB3 fB3 lB4 cB4 fB4 lB7 cB7 fB7
            go_loopw [53] (fun _ wr => ∃ (q l : Nat) (d : Option Addr) (e : Nat) (T : Foot), l = lb + q ∧ (q = 0 ∨ (l : Int) ≤ ar) ∧ Box wr wv.heap.size #[.slice a m c, .slice d l e] ∧ Holds [wv.heap.size] wA.heap.size wr T (fun W => ORefs wv W T (.slice d l e) (i.arrays ++ List.replicate q [])) ∧ OffF (fun k => k = wv.heap.size) wA wr) (fun _ W => ar.toNat - lenAt W wv.heap.size 1)
            case atStart => exact ⟨0, lb, a8, c8, S8, rfl, .inl rfl, B7.out, by rw [List.replicate_zero, List.append_nil]; exact HH8.out, HOA.out⟩
            case round =>
              obtain ⟨q, l, d, e, T, hl, hq, hbx, hT, ho⟩ := hrel
              have HLL := Lib.hid hl
              have HQQ := Lib.hid hq
              have HHT := Lib.hid hT
              have HOQ := Lib.hid ho
              have HW : Hid (Below w.heap.size w wr) := Lib.hid (HWA.out.trans (ho.below HWA.out.size (fun k _ h => by have h9 : k = wv.heap.size := h; omega)))
              have B3 := Lib.hid (B3A.out.off ho (fun h => by have h9 : w.heap.size = wv.heap.size := h; omega))
              have B4 := Lib.hid (B4A.out.off ho (fun h => by have h9 : w.heap.size + 1 = wv.heap.size := h; omega))
              have B7 := Lib.hid hbx
              clear hl hq hbx hT ho HH8 HOA






              obtain ⟨lB3, cB3, fB3⟩ := B3.out
              obtain ⟨lB4, cB4, fB4⟩ := B4.out
              obtain ⟨lB7, cB7, fB7⟩ := B7.out
              by_cases hlt : (l : Int) < ar ∧ ar ≤ 8
              · obtain ⟨h1, h2⟩ := hlt
                have HLN : Hid ((i.arrays ++ List.replicate q []).length = l) := Lib.hid (by rw [List.length_append, List.length_replicate]; have := HLL.out; have := HDIM.out; omega)
                have hBOLD := B7
                have q1 : decide ((l : Int) < ar) = true := by simpa using h1
                have q2 : decide (ar ≤ 8) = true := by simpa using h2
                have hnb : ¬ T wv.heap.size := fun h => HHT.out.free _ h (by simp)
                go_wp2_with (at_builtin; go_loud (refine wpList_rsnoc (w0 := wv) rfl _ _ rfl HLN.out rfl rfl (HHT.out.alloc _).now (Box.new _ _ _) (by omega) ?_); intro d2 e2 w3 T2 hO hG hof; obtain ⟨ly, cy, fy⟩ := (B7.out.alloc (.cells #[.slice none 0 0] 22)).off hof hnb)
                clear ly cy fy
                have hnb3 : ¬ T w.heap.size := fun h => by have := HHT.out.base _ h; have := HWA.out.size; have := B3A.out.lt; omega
                have hnb4 : ¬ T (w.heap.size + 1) := fun h => by have := HHT.out.base _ h; have := B4A.out.lt; omega
                clear lB3 cB3 fB3 lB4 cB4 fB4 lB7 cB7 fB7
                clear q1 q2
                replace B3 := Lib.hid ((B3.out.alloc (.cells #[.slice none 0 0] 22)).off hof hnb3)
                replace B4 := Lib.hid ((B4.out.alloc (.cells #[.slice none 0 0] 22)).off hof hnb4)
                replace B7 := Lib.hid ((B7.out.alloc (.cells #[.slice none 0 0] 22)).off hof hnb)
                have hTb : ∀ k, T2 k → wA.heap.size ≤ k := fun k hk => by
                  rcases hG k hk with h | h
                  · exact HHT.out.base k h
                  · have := HOQ.out.size; simp at h; omega
                have HT2 : Hid (Holds [wv.heap.size] wA.heap.size w3 T2 (fun W => ORefs wv W T2 (.slice d2 (l + 1) e2) (i.arrays ++ List.replicate (q + 1) []))) := Lib.hid (by
                  rw [List.replicate_succ', ← List.append_assoc]
                  exact (holds_refs hO hTb).low (fun b hb => by have := B7A.out.lt; simp at hb; omega))
                have HO3 : Hid (OffF (fun k => k = wv.heap.size) wA w3) := Lib.hid (Off.grow (HOQ.out.alloc _) hof (fun k hk => .inr (HHT.out.base k hk)))
                clear hO hG hof hTb hnb hnb3 hnb4
                go_roundw
                case rel => exact ⟨q + 1, l + 1, d2, e2, T2, by have := HLL.out; omega, .inr (by omega), by simpa using B7.out.set 1 (.slice d2 (l + 1) e2), HT2.out.other _ (by simp), HO3.out.other _ (.inl rfl)⟩
                case measure =>
                  rw [lenAt_box (n := l + 1) (a := d2) (c := e2) (B7.out.set 1 (.slice d2 (l + 1) e2)) rfl, lenAt_box (n := l) (a := d) (c := e) hBOLD.out rfl]
                  omega
              · have hAA : Hid (OInts wr S (.slice a m c) (i.args ++ List.replicate n 0)) := Lib.hid (HHA.out.now.off HOQ.out (fun k hk h => HHA.out.free k hk (by have h9 : k = wv.heap.size := h; simp [h9])))
                have hfin : Hid (Below wv.heap.size wv wr) := Lib.hid (HV1.out.trans ((Off.grow HOF1.out HOQ.out (fun k hk => .inl hk)).below HV1.out.size (fun k _ h => by have h9 : k = wv.heap.size := h; omega)))
                have HWI : Hid (InputV wr (.agg #[.slice a m c, .slice d l e]) ⟨i.args ++ List.replicate n 0, i.arrays ++ List.replicate q []⟩) := Lib.hid ⟨_, _, rfl, hAA.out.ints, HHT.out.now.lists hfin.out⟩
                have HST : Hid (startS f i = startS f ⟨i.args ++ List.replicate n 0, i.arrays ++ List.replicate q []⟩) := Lib.hid (startS_eq (fun k hk => (getD_fill _ _ _ _).symm) (fun k hk => (getD_fill _ _ _ _).symm))
                clear hAA hfin
                have hcs : (decide ((l : Int) < ar) = false) ∨ (decide ((l : Int) < ar) = true ∧ decide (ar ≤ 8) = false) := by
                  by_cases h : (l : Int) < ar
                  · exact .inr ⟨by simpa using h, by simp; omega⟩
                  · exact .inl (by simpa using h)
                clear hlt
                rcases hcs with q1 | ⟨q1, q2⟩
                · go_upto_region 9 with (fail)
                  clear q1
                  refine Four.wp_region_grow (XF := (fun _ => Foot.none)) (I := (fun _ => True)) 11 (fun ν kz => match kz with | 0 => .const (.bool true) | 4 => .holds (fun u w' => Ran f i 500 u w') | 7 => .holds (fun u w' => Ran f ⟨i.args ++ List.replicate n 0, i.arrays ++ List.replicate q []⟩ 500 u w') | 8 => .const (.bool true) | _ => .plain) (by kernel_rfl) (by kernel_rfl) ?_ ?_ (fun _ _ h => h.elim) (fun _ _ _ _ => trivial) trivial ?_ (fun ν => ?_)
                  · (intro ν k; (try dsimp only); split <;> first | exact True.intro | (intro u w1 w2 hu hb; exact hu.later (hb.below (Nat.le_refl _) (fun _ _ ⟨_, _, h⟩ => h.elim))))
                  · (intro ν ν' k h; first | rfl | ((try dsimp only); split <;> first | rfl))
                  · (intro ν j B mk A h; (try dsimp only at h); split at h <;> first | (cases h; exact Nat.le_refl _) | cases h)
                  simp only [List.take_succ_cons, List.take_zero, List.drop_succ_cons, List.drop_zero]
                  refine Four.Grow.call (f := ?_) (args := ?_) rfl (fun wg => ?_) (fun wg hbg hdg => ?_) ?_
                  rotate_left 2
                  focus (first | (go_simp; done) | (go_simp; refine And.intro ?_ ?_ <;> with_reducible rfl) | (go_simp; with_reducible rfl))
                  focus exact Calls.mono (awake6) (fun e w2 ⟨he, hb2⟩ => ⟨_, he, rfl, hb2⟩)
                  simp only [Act.put, Known.val, List.setIfInBounds_toArray, List.set_cons_zero, List.set_cons_succ]
                  iterate 3 (refine Four.Grow.val (v := ?_) rfl rfl (fun wg hbg hdg => ?_) ?_; rotate_left; (focus ((obtain ⟨lg0, cg0, fg0⟩ := B3.out.off hbg.off (fun ⟨_, h⟩ => h.elim)); (obtain ⟨lg1, cg1, fg1⟩ := B4.out.off hbg.off (fun ⟨_, h⟩ => h.elim)); (obtain ⟨lg2, cg2, fg2⟩ := B7.out.off hbg.off (fun ⟨_, h⟩ => h.elim)); clear hbg hdg; first | (go_simp; done) | (go_simp; with_reducible rfl))); simp only [Act.put, List.setIfInBounds_toArray, List.set_cons_zero, List.set_cons_succ])
                  refine Four.Grow.call (f := ?_) (args := ?_) rfl (fun wg => ?_) (fun wg hbg hdg => ?_) ?_
                  rotate_left 2
                  focus (first | (go_simp; done) | (go_simp; refine And.intro ?_ ?_ <;> with_reducible rfl) | (go_simp; with_reducible rfl))
                  focus (exact (runC (HV.out.below (HW.out.trans ((pre0 hbg).mono HW.out.size))) (HI.out.below (HW.out.trans ((pre0 hbg).mono HW.out.size))) ⟨by decide, by decide⟩).mono (fun e w2 ⟨v, t, he, hp, ht, hb⟩ => ⟨v, he, ⟨t, hp, ht⟩, hb⟩))
                  simp only [Act.put, Known.val, List.setIfInBounds_toArray, List.set_cons_zero, List.set_cons_succ]
                  iterate 2 (refine Four.Grow.val (v := ?_) rfl rfl (fun wg hbg hdg => ?_) ?_; rotate_left; (focus ((obtain ⟨lg0, cg0, fg0⟩ := B3.out.off hbg.off (fun ⟨_, h⟩ => h.elim)); (obtain ⟨lg1, cg1, fg1⟩ := B4.out.off hbg.off (fun ⟨_, h⟩ => h.elim)); (obtain ⟨lg2, cg2, fg2⟩ := B7.out.off hbg.off (fun ⟨_, h⟩ => h.elim)); clear hbg hdg; first | (go_simp; done) | (go_simp; with_reducible rfl))); simp only [Act.put, List.setIfInBounds_toArray, List.set_cons_zero, List.set_cons_succ])
                  refine Four.Grow.call (f := ?_) (args := ?_) rfl (fun wg => ?_) (fun wg hbg hdg => ?_) ?_
                  rotate_left 2
                  focus (first | (go_simp; done) | (go_simp; refine And.intro ?_ ?_ <;> with_reducible rfl) | (go_simp; with_reducible rfl))
                  focus (exact (runC (HV.out.below (HW.out.trans ((pre0 hbg).mono HW.out.size))) (HWI.out.below (pre0 hbg)) ⟨by decide, by decide⟩).mono (fun e w2 ⟨v, t, he, hp, ht, hb⟩ => ⟨v, he, ⟨t, hp, ht⟩, hb⟩))
                  simp only [Act.put, Known.val, List.setIfInBounds_toArray, List.set_cons_zero, List.set_cons_succ]
                  refine Four.Grow.call (f := ?_) (args := ?_) rfl (fun wg => ?_) (fun wg hbg hdg => ?_) ?_
                  rotate_left 2
                  focus (first | (go_simp; done) | (go_simp; refine And.intro ?_ ?_ <;> with_reducible rfl) | (go_simp; with_reducible rfl))
                  focus exact Calls.mono ((same_of_runs HST.out (hdg 4 (by kernel_rfl)) (hdg 7 (by kernel_rfl)))) (fun e w2 ⟨he, hb2⟩ => ⟨_, he, rfl, hb2⟩)
                  simp only [Act.put, Known.val, List.setIfInBounds_toArray, List.set_cons_zero, List.set_cons_succ]
                  iterate 2 (refine Four.Grow.val (v := ?_) rfl rfl (fun wg hbg hdg => ?_) ?_; rotate_left; (focus ((obtain ⟨lg0, cg0, fg0⟩ := B3.out.off hbg.off (fun ⟨_, h⟩ => h.elim)); (obtain ⟨lg1, cg1, fg1⟩ := B4.out.off hbg.off (fun ⟨_, h⟩ => h.elim)); (obtain ⟨lg2, cg2, fg2⟩ := B7.out.off hbg.off (fun ⟨_, h⟩ => h.elim)); clear hbg hdg; first | (go_simp; done) | (go_simp; with_reducible rfl))); simp only [Act.put, List.setIfInBounds_toArray, List.set_cons_zero, List.set_cons_succ])
                  intro wg hb hf hap
                  clear hap
                  clear lB3 cB3 fB3 lB4 cB4 fB4 lB7 cB7 fB7
                  replace B3 := Lib.hid (B3.out.off hb.1 (fun ⟨_, h⟩ => h.elim))
                  replace B4 := Lib.hid (B4.out.off hb.1 (fun ⟨_, h⟩ => h.elim))
                  replace B7 := Lib.hid (B7.out.off hb.1 (fun ⟨_, h⟩ => h.elim))
                  replace HW := Lib.hid (HW.out.trans (hb.1.below HW.out.size (fun _ _ ⟨_, h⟩ => h.elim)))
                  obtain ⟨lB3, cB3, fB3⟩ := B3.out
                  obtain ⟨lB4, cB4, fB4⟩ := B4.out
                  obtain ⟨lB7, cB7, fB7⟩ := B7.out
                  clear hf
                  go_wp2
                  go_ret
                  exact ⟨rfl, HW.out⟩
                · go_upto_region 9 with (fail)
                  clear q1 q2
                  refine Four.wp_region_grow (XF := (fun _ => Foot.none)) (I := (fun _ => True)) 11 (fun ν kz => match kz with | 0 => .const (.bool true) | 4 => .holds (fun u w' => Ran f i 500 u w') | 7 => .holds (fun u w' => Ran f ⟨i.args ++ List.replicate n 0, i.arrays ++ List.replicate q []⟩ 500 u w') | 8 => .const (.bool true) | _ => .plain) (by kernel_rfl) (by kernel_rfl) ?_ ?_ (fun _ _ h => h.elim) (fun _ _ _ _ => trivial) trivial ?_ (fun ν => ?_)
                  · (intro ν k; (try dsimp only); split <;> first | exact True.intro | (intro u w1 w2 hu hb; exact hu.later (hb.below (Nat.le_refl _) (fun _ _ ⟨_, _, h⟩ => h.elim))))
                  · (intro ν ν' k h; first | rfl | ((try dsimp only); split <;> first | rfl))
                  · (intro ν j B mk A h; (try dsimp only at h); split at h <;> first | (cases h; exact Nat.le_refl _) | cases h)
                  simp only [List.take_succ_cons, List.take_zero, List.drop_succ_cons, List.drop_zero]
                  refine Four.Grow.call (f := ?_) (args := ?_) rfl (fun wg => ?_) (fun wg hbg hdg => ?_) ?_
                  rotate_left 2
                  focus (first | (go_simp; done) | (go_simp; refine And.intro ?_ ?_ <;> with_reducible rfl) | (go_simp; with_reducible rfl))
                  focus exact Calls.mono (awake6) (fun e w2 ⟨he, hb2⟩ => ⟨_, he, rfl, hb2⟩)
                  simp only [Act.put, Known.val, List.setIfInBounds_toArray, List.set_cons_zero, List.set_cons_succ]
                  iterate 3 (refine Four.Grow.val (v := ?_) rfl rfl (fun wg hbg hdg => ?_) ?_; rotate_left; (focus ((obtain ⟨lg0, cg0, fg0⟩ := B3.out.off hbg.off (fun ⟨_, h⟩ => h.elim)); (obtain ⟨lg1, cg1, fg1⟩ := B4.out.off hbg.off (fun ⟨_, h⟩ => h.elim)); (obtain ⟨lg2, cg2, fg2⟩ := B7.out.off hbg.off (fun ⟨_, h⟩ => h.elim)); clear hbg hdg; first | (go_simp; done) | (go_simp; with_reducible rfl))); simp only [Act.put, List.setIfInBounds_toArray, List.set_cons_zero, List.set_cons_succ])
                  refine Four.Grow.call (f := ?_) (args := ?_) rfl (fun wg => ?_) (fun wg hbg hdg => ?_) ?_
                  rotate_left 2
                  focus (first | (go_simp; done) | (go_simp; refine And.intro ?_ ?_ <;> with_reducible rfl) | (go_simp; with_reducible rfl))
                  focus (exact (runC (HV.out.below (HW.out.trans ((pre0 hbg).mono HW.out.size))) (HI.out.below (HW.out.trans ((pre0 hbg).mono HW.out.size))) ⟨by decide, by decide⟩).mono (fun e w2 ⟨v, t, he, hp, ht, hb⟩ => ⟨v, he, ⟨t, hp, ht⟩, hb⟩))
                  simp only [Act.put, Known.val, List.setIfInBounds_toArray, List.set_cons_zero, List.set_cons_succ]
                  iterate 2 (refine Four.Grow.val (v := ?_) rfl rfl (fun wg hbg hdg => ?_) ?_; rotate_left; (focus ((obtain ⟨lg0, cg0, fg0⟩ := B3.out.off hbg.off (fun ⟨_, h⟩ => h.elim)); (obtain ⟨lg1, cg1, fg1⟩ := B4.out.off hbg.off (fun ⟨_, h⟩ => h.elim)); (obtain ⟨lg2, cg2, fg2⟩ := B7.out.off hbg.off (fun ⟨_, h⟩ => h.elim)); clear hbg hdg; first | (go_simp; done) | (go_simp; with_reducible rfl))); simp only [Act.put, List.setIfInBounds_toArray, List.set_cons_zero, List.set_cons_succ])
                  refine Four.Grow.call (f := ?_) (args := ?_) rfl (fun wg => ?_) (fun wg hbg hdg => ?_) ?_
                  rotate_left 2
                  focus (first | (go_simp; done) | (go_simp; refine And.intro ?_ ?_ <;> with_reducible rfl) | (go_simp; with_reducible rfl))
                  focus (exact (runC (HV.out.below (HW.out.trans ((pre0 hbg).mono HW.out.size))) (HWI.out.below (pre0 hbg)) ⟨by decide, by decide⟩).mono (fun e w2 ⟨v, t, he, hp, ht, hb⟩ => ⟨v, he, ⟨t, hp, ht⟩, hb⟩))
                  simp only [Act.put, Known.val, List.setIfInBounds_toArray, List.set_cons_zero, List.set_cons_succ]
                  refine Four.Grow.call (f := ?_) (args := ?_) rfl (fun wg => ?_) (fun wg hbg hdg => ?_) ?_
                  rotate_left 2
                  focus (first | (go_simp; done) | (go_simp; refine And.intro ?_ ?_ <;> with_reducible rfl) | (go_simp; with_reducible rfl))
                  focus exact Calls.mono ((same_of_runs HST.out (hdg 4 (by kernel_rfl)) (hdg 7 (by kernel_rfl)))) (fun e w2 ⟨he, hb2⟩ => ⟨_, he, rfl, hb2⟩)
                  simp only [Act.put, Known.val, List.setIfInBounds_toArray, List.set_cons_zero, List.set_cons_succ]
                  iterate 2 (refine Four.Grow.val (v := ?_) rfl rfl (fun wg hbg hdg => ?_) ?_; rotate_left; (focus ((obtain ⟨lg0, cg0, fg0⟩ := B3.out.off hbg.off (fun ⟨_, h⟩ => h.elim)); (obtain ⟨lg1, cg1, fg1⟩ := B4.out.off hbg.off (fun ⟨_, h⟩ => h.elim)); (obtain ⟨lg2, cg2, fg2⟩ := B7.out.off hbg.off (fun ⟨_, h⟩ => h.elim)); clear hbg hdg; first | (go_simp; done) | (go_simp; with_reducible rfl))); simp only [Act.put, List.setIfInBounds_toArray, List.set_cons_zero, List.set_cons_succ])
                  intro wg hb hf hap
                  clear hap
                  clear lB3 cB3 fB3 lB4 cB4 fB4 lB7 cB7 fB7
                  replace B3 := Lib.hid (B3.out.off hb.1 (fun ⟨_, h⟩ => h.elim))
                  replace B4 := Lib.hid (B4.out.off hb.1 (fun ⟨_, h⟩ => h.elim))
                  replace B7 := Lib.hid (B7.out.off hb.1 (fun ⟨_, h⟩ => h.elim))
                  replace HW := Lib.hid (HW.out.trans (hb.1.below HW.out.size (fun _ _ ⟨_, h⟩ => h.elim)))
                  obtain ⟨lB3, cB3, fB3⟩ := B3.out
                  obtain ⟨lB4, cB4, fB4⟩ := B4.out
                  obtain ⟨lB7, cB7, fB7⟩ := B7.out
                  clear hf
                  go_wp2
                  go_ret
                  exact ⟨rfl, HW.out⟩
    · have h2 : (lb : Int) < ar := by omega
      have q2 : decide ((lb : Int) < ar) = true := by simpa using h2
      clear hA
      go_upto_region 3 with (fail)
      have nB7B3 : wv.heap.size ≠ w.heap.size := fun e => by have := lB3; omega
      have nB3B7 : w.heap.size ≠ wv.heap.size := fun e => nB7B3 e.symm
      have nB7B4 : wv.heap.size ≠ w.heap.size + 1 := fun e => by have := lB4; omega
      have nB4B7 : w.heap.size + 1 ≠ wv.heap.size := fun e => nB7B4 e.symm
      have B3_ : Box (wv.alloc (.cells #[.slice aa la ca, .slice b5 lb c5] 34)) (w.heap.size) #[.slice ap np cp, .int .i64 ar, .int .i64 f.cells, .slice ab f.blocks.length cb] := by simpa using (B3.out.alloc _)
      have B4_ : Box (wv.alloc (.cells #[.slice aa la ca, .slice b5 lb c5] 34)) (w.heap.size + 1) #[.slice aa la ca, .slice b5 lb c5] := by simpa using (B4.out.alloc _)
      have B7_ : Box (wv.alloc (.cells #[.slice aa la ca, .slice b5 lb c5] 34)) (wv.heap.size) #[.slice aa la ca, .slice b5 lb c5] := by simpa using (Box.new wv #[.slice aa la ca, .slice b5 lb c5] 34)
      have HW_ : Below w.heap.size w (wv.alloc (.cells #[.slice aa la ca, .slice b5 lb c5] 34)) := (HW.out.alloc (by first | exact Nat.le_refl _ | exact HW.out.size | (simp only [World.size_alloc, World.size_setCell]; have := HW.out.size; omega)) _)
      clear lB3 cB3 fB3 lB4 cB4 fB4
      clear B3 B4 HW
      generalize (wv.alloc (.cells #[.slice aa la ca, .slice b5 lb c5] 34)) = w1 at *
      have B3 := Lib.hid B3_
      clear B3_
      have B4 := Lib.hid B4_
      clear B4_
      have B7 := Lib.hid B7_
      clear B7_
      have HW := Lib.hid HW_
      clear HW_
      obtain ⟨lB3, cB3, fB3⟩ := B3.out
      obtain ⟨lB4, cB4, fB4⟩ := B4.out
      obtain ⟨lB7, cB7, fB7⟩ := B7.out
      have HW1 := HW
      have B31 := B3
      have B41 := B4
      have HV1 : Hid (Below wv.heap.size wv w1) := Lib.hid hv1.out
      have gw1 : wv.heap.size < w1.heap.size := lB7
      go_upto_region 4 with (at_builtin; go_loud (refine wpList_iclone rfl _ _ rfl rfl rfl (HUA.out.below HW.out) ?_); intro a7 c7 w3 S7 hO hF hB; rw [← HDIM.out.2.2.1] at hO ⊢; obtain ⟨ly, cy, fy⟩ := B7.out.later hB)
      clear ly cy fy
      have HH7 : Hid (Holds [wv.heap.size] w1.heap.size w3 S7 (fun W => OInts W S7 (.slice a7 la c7) i.args)) := Lib.hid ((holds_ints hO hF).low (fun b hb => by have := B7.out.lt; simp at hb; omega))
      have HOF : Hid (OffF (fun k => k = wv.heap.size) w1 w3) := Lib.hid (Off.of_below hB _)
      clear hO hF
      clear lB3 cB3 fB3 lB4 cB4 fB4 lB7 cB7 fB7
      replace B3 := Lib.hid (B3.out.later hB)
      replace B4 := Lib.hid (B4.out.later hB)
      replace B7 := Lib.hid (B7.out.later hB)
      replace HW := Lib.hid (HW.out.trans (hB.mono HW.out.size))
      clear hB
      obtain ⟨lB3, cB3, fB3⟩ := B3.out
      obtain ⟨lB4, cB4, fB4⟩ := B4.out
      obtain ⟨lB7, cB7, fB7⟩ := B7.out


      have B3_ : Box (w3.setCell ⟨wv.heap.size, 0, none⟩ (.slice a7 la c7)) (w.heap.size) #[.slice ap np cp, .int .i64 ar, .int .i64 f.cells, .slice ab f.blocks.length cb] := by simpa using (B3.out.other (p := ⟨wv.heap.size, 0, none⟩) (.slice a7 la c7) (by first | assumption | (simp; done) | omega | (dsimp only; omega)))
      have B4_ : Box (w3.setCell ⟨wv.heap.size, 0, none⟩ (.slice a7 la c7)) (w.heap.size + 1) #[.slice aa la ca, .slice b5 lb c5] := by simpa using (B4.out.other (p := ⟨wv.heap.size, 0, none⟩) (.slice a7 la c7) (by first | assumption | (simp; done) | omega | (dsimp only; omega)))
      have B7_ : Box (w3.setCell ⟨wv.heap.size, 0, none⟩ (.slice a7 la c7)) (wv.heap.size) #[(.slice a7 la c7), .slice b5 lb c5] := by simpa using (B7.out.set 0 (.slice a7 la c7))
      have HH7_ := (HH7.out.other (p := ⟨wv.heap.size, 0, none⟩) (.slice a7 la c7) (by simp))
      have HOF_ := (HOF.out.other (p := ⟨wv.heap.size, 0, none⟩) (.slice a7 la c7) (by simp))
      have HW_ : Below w.heap.size w (w3.setCell ⟨wv.heap.size, 0, none⟩ (.slice a7 la c7)) := (HW.out.setCell (p := ⟨wv.heap.size, 0, none⟩) (by first | assumption | omega | (dsimp only; omega) | (have := HW.out.size; omega) | (simp; done) | (simp; omega)) (.slice a7 la c7))
      clear lB3 cB3 fB3 lB4 cB4 fB4 lB7 cB7 fB7
      clear B3 B4 B7 HH7 HOF HW
      generalize (w3.setCell ⟨wv.heap.size, 0, none⟩ (.slice a7 la c7)) = w4 at *
      have B3 := Lib.hid B3_
      clear B3_
      have B4 := Lib.hid B4_
      clear B4_
      have B7 := Lib.hid B7_
      clear B7_
      have HH7 := Lib.hid HH7_
      clear HH7_
      have HOF := Lib.hid HOF_
      clear HOF_
      have HW := Lib.hid HW_
      clear HW_
      obtain ⟨lB3, cB3, fB3⟩ := B3.out
      obtain ⟨lB4, cB4, fB4⟩ := B4.out
      obtain ⟨lB7, cB7, fB7⟩ := B7.out
      clear lB3 cB3 fB3 lB4 cB4 fB4 lB7 cB7 fB7
      go_loopw [30] (fun _ wr => ∃ (n m : Nat) (a : Option Addr) (c : Nat) (S : Foot), m = la + n ∧ (n = 0 ∨ m ≤ np) ∧ Box wr wv.heap.size #[.slice a m c, .slice b5 lb c5] ∧ Holds [wv.heap.size] w1.heap.size wr S (fun W => OInts W S (.slice a m c) (i.args ++ List.replicate n 0)) ∧ OffF (fun k => k = wv.heap.size) w1 wr) (fun _ W => np - lenAt W wv.heap.size 0)
      case atStart => exact ⟨0, la, a7, c7, S7, rfl, .inl rfl, B7.out, by rw [List.replicate_zero, List.append_nil]; exact HH7.out, HOF.out⟩
      case round =>
        obtain ⟨n, m, a, c, S, hm, hn, hbx, hS, ho⟩ := hrel
        clear HOF
        have HMM := Lib.hid hm
        have HNN := Lib.hid hn
        have HHS := Lib.hid hS
        have HOF := Lib.hid ho
        have HW : Hid (Below w.heap.size w wr) := Lib.hid (HW1.out.trans (ho.below HW1.out.size (fun k _ h => by have h9 : k = wv.heap.size := h; omega)))
        have B3 := Lib.hid (B31.out.off ho (fun h => by have h9 : w.heap.size = wv.heap.size := h; omega))
        have B4 := Lib.hid (B41.out.off ho (fun h => by have h9 : w.heap.size + 1 = wv.heap.size := h; omega))
        have B7 := Lib.hid hbx
        clear hm hn hbx hS ho HH7






        obtain ⟨lB3, cB3, fB3⟩ := B3.out
        obtain ⟨lB4, cB4, fB4⟩ := B4.out
        obtain ⟨lB7, cB7, fB7⟩ := B7.out
        by_cases hlt : m < np ∧ np ≤ 16
        · obtain ⟨h1, h2⟩ := hlt
          have HLN : Hid ((i.args ++ List.replicate n 0).length = m) := Lib.hid (by rw [List.length_append, List.length_replicate]; have := HMM.out; have := HDIM.out; omega)
          have hBOLD := B7
          have hnb : ¬ S wv.heap.size := fun h => HHS.out.free _ h (by simp)
          go_wp2_with (at_builtin; go_loud (refine wpList_iapp rfl _ _ rfl rfl rfl HLN.out (HHS.out.alloc _).now (Box.new _ _ _) ⟨by decide, by decide⟩ (by omega) ?_); intro g cap w2 hO hG hof; obtain ⟨ly, cy, fy⟩ := (B7.out.alloc (.cells #[.int .i64 0] 3)).off hof hnb)
          clear ly cy fy
          have hnb3 : ¬ S w.heap.size := fun h => by have := HHS.out.base _ h; have := B31.out.lt; omega
          have hnb4 : ¬ S (w.heap.size + 1) := fun h => by have := HHS.out.base _ h; have := B41.out.lt; omega
          clear lB3 cB3 fB3 lB4 cB4 fB4 lB7 cB7 fB7
          replace B3 := Lib.hid ((B3.out.alloc (.cells #[.int .i64 0] 3)).off hof hnb3)
          replace B4 := Lib.hid ((B4.out.alloc (.cells #[.int .i64 0] 3)).off hof hnb4)
          replace B7 := Lib.hid ((B7.out.alloc (.cells #[.int .i64 0] 3)).off hof hnb)
          have hgb : ∀ k, Foot.one g k → w1.heap.size ≤ k := fun k hk => by
            cases hk
            rcases hG with h | h
            · exact HHS.out.base g h
            · have := HOF.out.size; simp at h; omega
          have HS2 : Hid (Holds [wv.heap.size] w1.heap.size w2 (Foot.one g) (fun W => OInts W (Foot.one g) (.slice (some ⟨g, 0, none⟩) (m + 1) cap) (i.args ++ List.replicate (n + 1) 0))) := Lib.hid (by
            rw [List.replicate_succ', ← List.append_assoc]
            exact (holds_ints hO hgb).low (fun b hb => by simp at hb; omega))
          have HO3 : Hid (OffF (fun k => k = wv.heap.size) w1 w2) := Lib.hid (Off.grow (HOF.out.alloc _) hof (fun k hk => .inr (HHS.out.base k hk)))
          clear hO hG hof hgb hnb hnb3 hnb4
          go_roundw
          case rel => exact ⟨n + 1, m + 1, some ⟨g, 0, none⟩, cap, Foot.one g, by have := HMM.out; omega, .inr (by omega), by simpa using B7.out.set 0 (.slice (some ⟨g, 0, none⟩) (m + 1) cap), HS2.out.other _ (by simp), HO3.out.other _ (.inl rfl)⟩
          case measure =>
            rw [lenAt_box (n := m + 1) (a := some ⟨g, 0, none⟩) (c := cap) (B7.out.set 0 (.slice (some ⟨g, 0, none⟩) (m + 1) cap)) rfl, lenAt_box (n := m) (a := a) (c := c) hBOLD.out rfl]
            omega
        · have hcs : (¬ m < np) ∨ (m < np ∧ ¬ np ≤ 16) := by
            by_cases h : m < np
            · exact .inr ⟨h, fun h2 => hlt ⟨h, h2⟩⟩
            · exact .inl h
          clear hlt
          rcases hcs with q1 | ⟨q1, q2⟩
          · go_upto_region 6 with (fail)
            clear q1
            have HWA := HW
            have B3A := B3
            have B4A := B4
            have B7A := B7
            obtain ⟨wA, hwA⟩ : ∃ wA, wA = wr := ⟨_, rfl⟩
            have HHA : Hid (Holds [wv.heap.size] w1.heap.size wA S (fun W => OInts W S (.slice a m c) (i.args ++ List.replicate n 0))) := Lib.hid (by rw [hwA]; exact HHS.out)
            have HOF1 : Hid (OffF (fun k => k = wv.heap.size) w1 wA) := Lib.hid (by rw [hwA]; exact HOF.out)
            rw [← hwA] at HWA B3A B4A B7A
            clear HHS HOF
            go_upto_region 7 with (at_builtin; go_loud (refine wpList_rclone (w0 := wv) rfl _ _ rfl HDIM.out.2.2.2.1.symm rfl rfl (HN2.out.below HW.out) HN1.out HN3.out (by have := HLEN.out; have := HDIM.out; omega) ?_); intro a8 c8 w2 S8 hO hF hB; obtain ⟨ly, cy, fy⟩ := B7.out.later hB)
            clear ly cy fy
            have HH8 : Hid (Holds [wv.heap.size] wA.heap.size w2 S8 (fun W => ORefs wv W S8 (.slice a8 lb c8) i.arrays)) := Lib.hid (by rw [hwA]; exact (holds_refs hO hF).low (fun b hb => by simp at hb; omega))
            have HOA : Hid (OffF (fun k => k = wv.heap.size) wA w2) := Lib.hid (by rw [hwA]; exact Off.of_below hB _)
            clear hO hF hwA
            clear lB3 cB3 fB3 lB4 cB4 fB4 lB7 cB7 fB7
            replace B3 := Lib.hid (B3.out.later hB)
            replace B4 := Lib.hid (B4.out.later hB)
            replace B7 := Lib.hid (B7.out.later hB)
            replace HW := Lib.hid (HW.out.trans (hB.mono HW.out.size))
            clear hB
            obtain ⟨lB3, cB3, fB3⟩ := B3.out
            obtain ⟨lB4, cB4, fB4⟩ := B4.out
            obtain ⟨lB7, cB7, fB7⟩ := B7.out


            have B3_ : Box (w2.setCell ⟨wv.heap.size, 1, none⟩ (.slice a8 lb c8)) (w.heap.size) #[.slice ap np cp, .int .i64 ar, .int .i64 f.cells, .slice ab f.blocks.length cb] := by simpa using (B3.out.other (p := ⟨wv.heap.size, 1, none⟩) (.slice a8 lb c8) (by first | assumption | (simp; done) | omega | (dsimp only; omega)))
            have B4_ : Box (w2.setCell ⟨wv.heap.size, 1, none⟩ (.slice a8 lb c8)) (w.heap.size + 1) #[.slice aa la ca, .slice b5 lb c5] := by simpa using (B4.out.other (p := ⟨wv.heap.size, 1, none⟩) (.slice a8 lb c8) (by first | assumption | (simp; done) | omega | (dsimp only; omega)))
            have B7_ : Box (w2.setCell ⟨wv.heap.size, 1, none⟩ (.slice a8 lb c8)) (wv.heap.size) #[.slice a m c, (.slice a8 lb c8)] := by simpa using (B7.out.set 1 (.slice a8 lb c8))
            have HH8_ := (HH8.out.other (p := ⟨wv.heap.size, 1, none⟩) (.slice a8 lb c8) (by simp))
            have HOA_ := (HOA.out.other (p := ⟨wv.heap.size, 1, none⟩) (.slice a8 lb c8) (by simp))
            have HW_ : Below w.heap.size w (w2.setCell ⟨wv.heap.size, 1, none⟩ (.slice a8 lb c8)) := (HW.out.setCell (p := ⟨wv.heap.size, 1, none⟩) (by first | assumption | omega | (dsimp only; omega) | (have := HW.out.size; omega) | (simp; done) | (simp; omega)) (.slice a8 lb c8))
            clear lB3 cB3 fB3 lB4 cB4 fB4 lB7 cB7 fB7
            clear B3 B4 B7 HH8 HOA HW
            generalize (w2.setCell ⟨wv.heap.size, 1, none⟩ (.slice a8 lb c8)) = w5 at *
            have B3 := Lib.hid B3_
            clear B3_
            have B4 := Lib.hid B4_
            clear B4_
            have B7 := Lib.hid B7_
            clear B7_
            have HH8 := Lib.hid HH8_
            clear HH8_
            have HOA := Lib.hid HOA_
            clear HOA_
            have HW := Lib.hid HW_
            clear HW_
            obtain ⟨lB3, cB3, fB3⟩ := B3.out
            obtain ⟨lB4, cB4, fB4⟩ := B4.out
            obtain ⟨lB7, cB7, fB7⟩ := B7.out
            clear lB3 cB3 fB3 lB4 cB4 fB4 lB7 cB7 fB7
            go_loopw [53] (fun _ wr => ∃ (q l : Nat) (d : Option Addr) (e : Nat) (T : Foot), l = lb + q ∧ (q = 0 ∨ (l : Int) ≤ ar) ∧ Box wr wv.heap.size #[.slice a m c, .slice d l e] ∧ Holds [wv.heap.size] wA.heap.size wr T (fun W => ORefs wv W T (.slice d l e) (i.arrays ++ List.replicate q [])) ∧ OffF (fun k => k = wv.heap.size) wA wr) (fun _ W => ar.toNat - lenAt W wv.heap.size 1)
            case atStart => exact ⟨0, lb, a8, c8, S8, rfl, .inl rfl, B7.out, by rw [List.replicate_zero, List.append_nil]; exact HH8.out, HOA.out⟩
            case round =>
              obtain ⟨q, l, d, e, T, hl, hq, hbx, hT, ho⟩ := hrel
              have HLL := Lib.hid hl
              have HQQ := Lib.hid hq
              have HHT := Lib.hid hT
              have HOQ := Lib.hid ho
              have HW : Hid (Below w.heap.size w wr) := Lib.hid (HWA.out.trans (ho.below HWA.out.size (fun k _ h => by have h9 : k = wv.heap.size := h; omega)))
              have B3 := Lib.hid (B3A.out.off ho (fun h => by have h9 : w.heap.size = wv.heap.size := h; omega))
              have B4 := Lib.hid (B4A.out.off ho (fun h => by have h9 : w.heap.size + 1 = wv.heap.size := h; omega))
              have B7 := Lib.hid hbx
              clear hl hq hbx hT ho HH8 HOA






              obtain ⟨lB3, cB3, fB3⟩ := B3.out
              obtain ⟨lB4, cB4, fB4⟩ := B4.out
              obtain ⟨lB7, cB7, fB7⟩ := B7.out
              by_cases hlt : (l : Int) < ar ∧ ar ≤ 8
              · obtain ⟨h1, h2⟩ := hlt
                have HLN : Hid ((i.arrays ++ List.replicate q []).length = l) := Lib.hid (by rw [List.length_append, List.length_replicate]; have := HLL.out; have := HDIM.out; omega)
                have hBOLD := B7
                have q1 : decide ((l : Int) < ar) = true := by simpa using h1
                have q2 : decide (ar ≤ 8) = true := by simpa using h2
                have hnb : ¬ T wv.heap.size := fun h => HHT.out.free _ h (by simp)
                go_wp2_with (at_builtin; go_loud (refine wpList_rsnoc (w0 := wv) rfl _ _ rfl HLN.out rfl rfl (HHT.out.alloc _).now (Box.new _ _ _) (by omega) ?_); intro d2 e2 w3 T2 hO hG hof; obtain ⟨ly, cy, fy⟩ := (B7.out.alloc (.cells #[.slice none 0 0] 22)).off hof hnb)
                clear ly cy fy
                have hnb3 : ¬ T w.heap.size := fun h => by have := HHT.out.base _ h; have := HWA.out.size; have := B3A.out.lt; omega
                have hnb4 : ¬ T (w.heap.size + 1) := fun h => by have := HHT.out.base _ h; have := B4A.out.lt; omega
                clear lB3 cB3 fB3 lB4 cB4 fB4 lB7 cB7 fB7
                clear q1 q2
                replace B3 := Lib.hid ((B3.out.alloc (.cells #[.slice none 0 0] 22)).off hof hnb3)
                replace B4 := Lib.hid ((B4.out.alloc (.cells #[.slice none 0 0] 22)).off hof hnb4)
                replace B7 := Lib.hid ((B7.out.alloc (.cells #[.slice none 0 0] 22)).off hof hnb)
                have hTb : ∀ k, T2 k → wA.heap.size ≤ k := fun k hk => by
                  rcases hG k hk with h | h
                  · exact HHT.out.base k h
                  · have := HOQ.out.size; simp at h; omega
                have HT2 : Hid (Holds [wv.heap.size] wA.heap.size w3 T2 (fun W => ORefs wv W T2 (.slice d2 (l + 1) e2) (i.arrays ++ List.replicate (q + 1) []))) := Lib.hid (by
                  rw [List.replicate_succ', ← List.append_assoc]
                  exact (holds_refs hO hTb).low (fun b hb => by have := B7A.out.lt; simp at hb; omega))
                have HO3 : Hid (OffF (fun k => k = wv.heap.size) wA w3) := Lib.hid (Off.grow (HOQ.out.alloc _) hof (fun k hk => .inr (HHT.out.base k hk)))
                clear hO hG hof hTb hnb hnb3 hnb4
                go_roundw
                case rel => exact ⟨q + 1, l + 1, d2, e2, T2, by have := HLL.out; omega, .inr (by omega), by simpa using B7.out.set 1 (.slice d2 (l + 1) e2), HT2.out.other _ (by simp), HO3.out.other _ (.inl rfl)⟩
                case measure =>
                  rw [lenAt_box (n := l + 1) (a := d2) (c := e2) (B7.out.set 1 (.slice d2 (l + 1) e2)) rfl, lenAt_box (n := l) (a := d) (c := e) hBOLD.out rfl]
                  omega
              · have hAA : Hid (OInts wr S (.slice a m c) (i.args ++ List.replicate n 0)) := Lib.hid (HHA.out.now.off HOQ.out (fun k hk h => HHA.out.free k hk (by have h9 : k = wv.heap.size := h; simp [h9])))
                have hfin : Hid (Below wv.heap.size wv wr) := Lib.hid (HV1.out.trans ((Off.grow HOF1.out HOQ.out (fun k hk => .inl hk)).below HV1.out.size (fun k _ h => by have h9 : k = wv.heap.size := h; omega)))
                have HWI : Hid (InputV wr (.agg #[.slice a m c, .slice d l e]) ⟨i.args ++ List.replicate n 0, i.arrays ++ List.replicate q []⟩) := Lib.hid ⟨_, _, rfl, hAA.out.ints, HHT.out.now.lists hfin.out⟩
                have HST : Hid (startS f i = startS f ⟨i.args ++ List.replicate n 0, i.arrays ++ List.replicate q []⟩) := Lib.hid (startS_eq (fun k hk => (getD_fill _ _ _ _).symm) (fun k hk => (getD_fill _ _ _ _).symm))
                clear hAA hfin
                have hcs : (decide ((l : Int) < ar) = false) ∨ (decide ((l : Int) < ar) = true ∧ decide (ar ≤ 8) = false) := by
                  by_cases h : (l : Int) < ar
                  · exact .inr ⟨by simpa using h, by simp; omega⟩
                  · exact .inl (by simpa using h)
                clear hlt
                rcases hcs with q1 | ⟨q1, q2⟩
                · go_upto_region 9 with (fail)
                  clear q1
                  refine Four.wp_region_grow (XF := (fun _ => Foot.none)) (I := (fun _ => True)) 11 (fun ν kz => match kz with | 0 => .const (.bool true) | 4 => .holds (fun u w' => Ran f i 500 u w') | 7 => .holds (fun u w' => Ran f ⟨i.args ++ List.replicate n 0, i.arrays ++ List.replicate q []⟩ 500 u w') | 8 => .const (.bool true) | _ => .plain) (by kernel_rfl) (by kernel_rfl) ?_ ?_ (fun _ _ h => h.elim) (fun _ _ _ _ => trivial) trivial ?_ (fun ν => ?_)
                  · (intro ν k; (try dsimp only); split <;> first | exact True.intro | (intro u w1 w2 hu hb; exact hu.later (hb.below (Nat.le_refl _) (fun _ _ ⟨_, _, h⟩ => h.elim))))
                  · (intro ν ν' k h; first | rfl | ((try dsimp only); split <;> first | rfl))
                  · (intro ν j B mk A h; (try dsimp only at h); split at h <;> first | (cases h; exact Nat.le_refl _) | cases h)
                  simp only [List.take_succ_cons, List.take_zero, List.drop_succ_cons, List.drop_zero]
                  refine Four.Grow.call (f := ?_) (args := ?_) rfl (fun wg => ?_) (fun wg hbg hdg => ?_) ?_
                  rotate_left 2
                  focus (first | (go_simp; done) | (go_simp; refine And.intro ?_ ?_ <;> with_reducible rfl) | (go_simp; with_reducible rfl))
                  focus exact Calls.mono (awake6) (fun e w2 ⟨he, hb2⟩ => ⟨_, he, rfl, hb2⟩)
                  simp only [Act.put, Known.val, List.setIfInBounds_toArray, List.set_cons_zero, List.set_cons_succ]
                  iterate 3 (refine Four.Grow.val (v := ?_) rfl rfl (fun wg hbg hdg => ?_) ?_; rotate_left; (focus ((obtain ⟨lg0, cg0, fg0⟩ := B3.out.off hbg.off (fun ⟨_, h⟩ => h.elim)); (obtain ⟨lg1, cg1, fg1⟩ := B4.out.off hbg.off (fun ⟨_, h⟩ => h.elim)); (obtain ⟨lg2, cg2, fg2⟩ := B7.out.off hbg.off (fun ⟨_, h⟩ => h.elim)); clear hbg hdg; first | (go_simp; done) | (go_simp; with_reducible rfl))); simp only [Act.put, List.setIfInBounds_toArray, List.set_cons_zero, List.set_cons_succ])
                  refine Four.Grow.call (f := ?_) (args := ?_) rfl (fun wg => ?_) (fun wg hbg hdg => ?_) ?_
                  rotate_left 2
                  focus (first | (go_simp; done) | (go_simp; refine And.intro ?_ ?_ <;> with_reducible rfl) | (go_simp; with_reducible rfl))
                  focus (exact (runC (HV.out.below (HW.out.trans ((pre0 hbg).mono HW.out.size))) (HI.out.below (HW.out.trans ((pre0 hbg).mono HW.out.size))) ⟨by decide, by decide⟩).mono (fun e w2 ⟨v, t, he, hp, ht, hb⟩ => ⟨v, he, ⟨t, hp, ht⟩, hb⟩))
                  simp only [Act.put, Known.val, List.setIfInBounds_toArray, List.set_cons_zero, List.set_cons_succ]
                  iterate 2 (refine Four.Grow.val (v := ?_) rfl rfl (fun wg hbg hdg => ?_) ?_; rotate_left; (focus ((obtain ⟨lg0, cg0, fg0⟩ := B3.out.off hbg.off (fun ⟨_, h⟩ => h.elim)); (obtain ⟨lg1, cg1, fg1⟩ := B4.out.off hbg.off (fun ⟨_, h⟩ => h.elim)); (obtain ⟨lg2, cg2, fg2⟩ := B7.out.off hbg.off (fun ⟨_, h⟩ => h.elim)); clear hbg hdg; first | (go_simp; done) | (go_simp; with_reducible rfl))); simp only [Act.put, List.setIfInBounds_toArray, List.set_cons_zero, List.set_cons_succ])
                  refine Four.Grow.call (f := ?_) (args := ?_) rfl (fun wg => ?_) (fun wg hbg hdg => ?_) ?_
                  rotate_left 2
                  focus (first | (go_simp; done) | (go_simp; refine And.intro ?_ ?_ <;> with_reducible rfl) | (go_simp; with_reducible rfl))
                  focus (exact (runC (HV.out.below (HW.out.trans ((pre0 hbg).mono HW.out.size))) (HWI.out.below (pre0 hbg)) ⟨by decide, by decide⟩).mono (fun e w2 ⟨v, t, he, hp, ht, hb⟩ => ⟨v, he, ⟨t, hp, ht⟩, hb⟩))
                  simp only [Act.put, Known.val, List.setIfInBounds_toArray, List.set_cons_zero, List.set_cons_succ]
                  refine Four.Grow.call (f := ?_) (args := ?_) rfl (fun wg => ?_) (fun wg hbg hdg => ?_) ?_
                  rotate_left 2
                  focus (first | (go_simp; done) | (go_simp; refine And.intro ?_ ?_ <;> with_reducible rfl) | (go_simp; with_reducible rfl))
                  focus exact Calls.mono ((same_of_runs HST.out (hdg 4 (by kernel_rfl)) (hdg 7 (by kernel_rfl)))) (fun e w2 ⟨he, hb2⟩ => ⟨_, he, rfl, hb2⟩)
                  simp only [Act.put, Known.val, List.setIfInBounds_toArray, List.set_cons_zero, List.set_cons_succ]
                  iterate 2 (refine Four.Grow.val (v := ?_) rfl rfl (fun wg hbg hdg => ?_) ?_; rotate_left; (focus ((obtain ⟨lg0, cg0, fg0⟩ := B3.out.off hbg.off (fun ⟨_, h⟩ => h.elim)); (obtain ⟨lg1, cg1, fg1⟩ := B4.out.off hbg.off (fun ⟨_, h⟩ => h.elim)); (obtain ⟨lg2, cg2, fg2⟩ := B7.out.off hbg.off (fun ⟨_, h⟩ => h.elim)); clear hbg hdg; first | (go_simp; done) | (go_simp; with_reducible rfl))); simp only [Act.put, List.setIfInBounds_toArray, List.set_cons_zero, List.set_cons_succ])
                  intro wg hb hf hap
                  clear hap
                  clear lB3 cB3 fB3 lB4 cB4 fB4 lB7 cB7 fB7
                  replace B3 := Lib.hid (B3.out.off hb.1 (fun ⟨_, h⟩ => h.elim))
                  replace B4 := Lib.hid (B4.out.off hb.1 (fun ⟨_, h⟩ => h.elim))
                  replace B7 := Lib.hid (B7.out.off hb.1 (fun ⟨_, h⟩ => h.elim))
                  replace HW := Lib.hid (HW.out.trans (hb.1.below HW.out.size (fun _ _ ⟨_, h⟩ => h.elim)))
                  obtain ⟨lB3, cB3, fB3⟩ := B3.out
                  obtain ⟨lB4, cB4, fB4⟩ := B4.out
                  obtain ⟨lB7, cB7, fB7⟩ := B7.out
                  clear hf
                  go_wp2
                  go_ret
                  exact ⟨rfl, HW.out⟩
                · go_upto_region 9 with (fail)
                  clear q1 q2
                  refine Four.wp_region_grow (XF := (fun _ => Foot.none)) (I := (fun _ => True)) 11 (fun ν kz => match kz with | 0 => .const (.bool true) | 4 => .holds (fun u w' => Ran f i 500 u w') | 7 => .holds (fun u w' => Ran f ⟨i.args ++ List.replicate n 0, i.arrays ++ List.replicate q []⟩ 500 u w') | 8 => .const (.bool true) | _ => .plain) (by kernel_rfl) (by kernel_rfl) ?_ ?_ (fun _ _ h => h.elim) (fun _ _ _ _ => trivial) trivial ?_ (fun ν => ?_)
                  · (intro ν k; (try dsimp only); split <;> first | exact True.intro | (intro u w1 w2 hu hb; exact hu.later (hb.below (Nat.le_refl _) (fun _ _ ⟨_, _, h⟩ => h.elim))))
                  · (intro ν ν' k h; first | rfl | ((try dsimp only); split <;> first | rfl))
                  · (intro ν j B mk A h; (try dsimp only at h); split at h <;> first | (cases h; exact Nat.le_refl _) | cases h)
                  simp only [List.take_succ_cons, List.take_zero, List.drop_succ_cons, List.drop_zero]
                  refine Four.Grow.call (f := ?_) (args := ?_) rfl (fun wg => ?_) (fun wg hbg hdg => ?_) ?_
                  rotate_left 2
                  focus (first | (go_simp; done) | (go_simp; refine And.intro ?_ ?_ <;> with_reducible rfl) | (go_simp; with_reducible rfl))
                  focus exact Calls.mono (awake6) (fun e w2 ⟨he, hb2⟩ => ⟨_, he, rfl, hb2⟩)
                  simp only [Act.put, Known.val, List.setIfInBounds_toArray, List.set_cons_zero, List.set_cons_succ]
                  iterate 3 (refine Four.Grow.val (v := ?_) rfl rfl (fun wg hbg hdg => ?_) ?_; rotate_left; (focus ((obtain ⟨lg0, cg0, fg0⟩ := B3.out.off hbg.off (fun ⟨_, h⟩ => h.elim)); (obtain ⟨lg1, cg1, fg1⟩ := B4.out.off hbg.off (fun ⟨_, h⟩ => h.elim)); (obtain ⟨lg2, cg2, fg2⟩ := B7.out.off hbg.off (fun ⟨_, h⟩ => h.elim)); clear hbg hdg; first | (go_simp; done) | (go_simp; with_reducible rfl))); simp only [Act.put, List.setIfInBounds_toArray, List.set_cons_zero, List.set_cons_succ])
                  refine Four.Grow.call (f := ?_) (args := ?_) rfl (fun wg => ?_) (fun wg hbg hdg => ?_) ?_
                  rotate_left 2
                  focus (first | (go_simp; done) | (go_simp; refine And.intro ?_ ?_ <;> with_reducible rfl) | (go_simp; with_reducible rfl))
                  focus (exact (runC (HV.out.below (HW.out.trans ((pre0 hbg).mono HW.out.size))) (HI.out.below (HW.out.trans ((pre0 hbg).mono HW.out.size))) ⟨by decide, by decide⟩).mono (fun e w2 ⟨v, t, he, hp, ht, hb⟩ => ⟨v, he, ⟨t, hp, ht⟩, hb⟩))
                  simp only [Act.put, Known.val, List.setIfInBounds_toArray, List.set_cons_zero, List.set_cons_succ]
                  iterate 2 (refine Four.Grow.val (v := ?_) rfl rfl (fun wg hbg hdg => ?_) ?_; rotate_left; (focus ((obtain ⟨lg0, cg0, fg0⟩ := B3.out.off hbg.off (fun ⟨_, h⟩ => h.elim)); (obtain ⟨lg1, cg1, fg1⟩ := B4.out.off hbg.off (fun ⟨_, h⟩ => h.elim)); (obtain ⟨lg2, cg2, fg2⟩ := B7.out.off hbg.off (fun ⟨_, h⟩ => h.elim)); clear hbg hdg; first | (go_simp; done) | (go_simp; with_reducible rfl))); simp only [Act.put, List.setIfInBounds_toArray, List.set_cons_zero, List.set_cons_succ])
                  refine Four.Grow.call (f := ?_) (args := ?_) rfl (fun wg => ?_) (fun wg hbg hdg => ?_) ?_
                  rotate_left 2
                  focus (first | (go_simp; done) | (go_simp; refine And.intro ?_ ?_ <;> with_reducible rfl) | (go_simp; with_reducible rfl))
                  focus (exact (runC (HV.out.below (HW.out.trans ((pre0 hbg).mono HW.out.size))) (HWI.out.below (pre0 hbg)) ⟨by decide, by decide⟩).mono (fun e w2 ⟨v, t, he, hp, ht, hb⟩ => ⟨v, he, ⟨t, hp, ht⟩, hb⟩))
                  simp only [Act.put, Known.val, List.setIfInBounds_toArray, List.set_cons_zero, List.set_cons_succ]
                  refine Four.Grow.call (f := ?_) (args := ?_) rfl (fun wg => ?_) (fun wg hbg hdg => ?_) ?_
                  rotate_left 2
                  focus (first | (go_simp; done) | (go_simp; refine And.intro ?_ ?_ <;> with_reducible rfl) | (go_simp; with_reducible rfl))
                  focus exact Calls.mono ((same_of_runs HST.out (hdg 4 (by kernel_rfl)) (hdg 7 (by kernel_rfl)))) (fun e w2 ⟨he, hb2⟩ => ⟨_, he, rfl, hb2⟩)
                  simp only [Act.put, Known.val, List.setIfInBounds_toArray, List.set_cons_zero, List.set_cons_succ]
                  iterate 2 (refine Four.Grow.val (v := ?_) rfl rfl (fun wg hbg hdg => ?_) ?_; rotate_left; (focus ((obtain ⟨lg0, cg0, fg0⟩ := B3.out.off hbg.off (fun ⟨_, h⟩ => h.elim)); (obtain ⟨lg1, cg1, fg1⟩ := B4.out.off hbg.off (fun ⟨_, h⟩ => h.elim)); (obtain ⟨lg2, cg2, fg2⟩ := B7.out.off hbg.off (fun ⟨_, h⟩ => h.elim)); clear hbg hdg; first | (go_simp; done) | (go_simp; with_reducible rfl))); simp only [Act.put, List.setIfInBounds_toArray, List.set_cons_zero, List.set_cons_succ])
                  intro wg hb hf hap
                  clear hap
                  clear lB3 cB3 fB3 lB4 cB4 fB4 lB7 cB7 fB7
                  replace B3 := Lib.hid (B3.out.off hb.1 (fun ⟨_, h⟩ => h.elim))
                  replace B4 := Lib.hid (B4.out.off hb.1 (fun ⟨_, h⟩ => h.elim))
                  replace B7 := Lib.hid (B7.out.off hb.1 (fun ⟨_, h⟩ => h.elim))
                  replace HW := Lib.hid (HW.out.trans (hb.1.below HW.out.size (fun _ _ ⟨_, h⟩ => h.elim)))
                  obtain ⟨lB3, cB3, fB3⟩ := B3.out
                  obtain ⟨lB4, cB4, fB4⟩ := B4.out
                  obtain ⟨lB7, cB7, fB7⟩ := B7.out
                  clear hf
                  go_wp2
                  go_ret
                  exact ⟨rfl, HW.out⟩
          · go_upto_region 6 with (fail)
            clear q1 q2
            have HWA := HW
            have B3A := B3
            have B4A := B4
            have B7A := B7
            obtain ⟨wA, hwA⟩ : ∃ wA, wA = wr := ⟨_, rfl⟩
            have HHA : Hid (Holds [wv.heap.size] w1.heap.size wA S (fun W => OInts W S (.slice a m c) (i.args ++ List.replicate n 0))) := Lib.hid (by rw [hwA]; exact HHS.out)
            have HOF1 : Hid (OffF (fun k => k = wv.heap.size) w1 wA) := Lib.hid (by rw [hwA]; exact HOF.out)
            rw [← hwA] at HWA B3A B4A B7A
            clear HHS HOF
            go_upto_region 7 with (at_builtin; go_loud (refine wpList_rclone (w0 := wv) rfl _ _ rfl HDIM.out.2.2.2.1.symm rfl rfl (HN2.out.below HW.out) HN1.out HN3.out (by have := HLEN.out; have := HDIM.out; omega) ?_); intro a8 c8 w2 S8 hO hF hB; obtain ⟨ly, cy, fy⟩ := B7.out.later hB)
            clear ly cy fy
            have HH8 : Hid (Holds [wv.heap.size] wA.heap.size w2 S8 (fun W => ORefs wv W S8 (.slice a8 lb c8) i.arrays)) := Lib.hid (by rw [hwA]; exact (holds_refs hO hF).low (fun b hb => by simp at hb; omega))
            have HOA : Hid (OffF (fun k => k = wv.heap.size) wA w2) := Lib.hid (by rw [hwA]; exact Off.of_below hB _)
            clear hO hF hwA
            clear lB3 cB3 fB3 lB4 cB4 fB4 lB7 cB7 fB7
            replace B3 := Lib.hid (B3.out.later hB)
            replace B4 := Lib.hid (B4.out.later hB)
            replace B7 := Lib.hid (B7.out.later hB)
            replace HW := Lib.hid (HW.out.trans (hB.mono HW.out.size))
            clear hB
            obtain ⟨lB3, cB3, fB3⟩ := B3.out
            obtain ⟨lB4, cB4, fB4⟩ := B4.out
            obtain ⟨lB7, cB7, fB7⟩ := B7.out


            have B3_ : Box (w2.setCell ⟨wv.heap.size, 1, none⟩ (.slice a8 lb c8)) (w.heap.size) #[.slice ap np cp, .int .i64 ar, .int .i64 f.cells, .slice ab f.blocks.length cb] := by simpa using (B3.out.other (p := ⟨wv.heap.size, 1, none⟩) (.slice a8 lb c8) (by first | assumption | (simp; done) | omega | (dsimp only; omega)))
            have B4_ : Box (w2.setCell ⟨wv.heap.size, 1, none⟩ (.slice a8 lb c8)) (w.heap.size + 1) #[.slice aa la ca, .slice b5 lb c5] := by simpa using (B4.out.other (p := ⟨wv.heap.size, 1, none⟩) (.slice a8 lb c8) (by first | assumption | (simp; done) | omega | (dsimp only; omega)))
            have B7_ : Box (w2.setCell ⟨wv.heap.size, 1, none⟩ (.slice a8 lb c8)) (wv.heap.size) #[.slice a m c, (.slice a8 lb c8)] := by simpa using (B7.out.set 1 (.slice a8 lb c8))
            have HH8_ := (HH8.out.other (p := ⟨wv.heap.size, 1, none⟩) (.slice a8 lb c8) (by simp))
            have HOA_ := (HOA.out.other (p := ⟨wv.heap.size, 1, none⟩) (.slice a8 lb c8) (by simp))
            have HW_ : Below w.heap.size w (w2.setCell ⟨wv.heap.size, 1, none⟩ (.slice a8 lb c8)) := (HW.out.setCell (p := ⟨wv.heap.size, 1, none⟩) (by first | assumption | omega | (dsimp only; omega) | (have := HW.out.size; omega) | (simp; done) | (simp; omega)) (.slice a8 lb c8))
            clear lB3 cB3 fB3 lB4 cB4 fB4 lB7 cB7 fB7
            clear B3 B4 B7 HH8 HOA HW
            generalize (w2.setCell ⟨wv.heap.size, 1, none⟩ (.slice a8 lb c8)) = w5 at *
            have B3 := Lib.hid B3_
            clear B3_
            have B4 := Lib.hid B4_
            clear B4_
            have B7 := Lib.hid B7_
            clear B7_
            have HH8 := Lib.hid HH8_
            clear HH8_
            have HOA := Lib.hid HOA_
            clear HOA_
            have HW := Lib.hid HW_
            clear HW_
            obtain ⟨lB3, cB3, fB3⟩ := B3.out
            obtain ⟨lB4, cB4, fB4⟩ := B4.out
            obtain ⟨lB7, cB7, fB7⟩ := B7.out
            clear lB3 cB3 fB3 lB4 cB4 fB4 lB7 cB7 fB7
            go_loopw [53] (fun _ wr => ∃ (q l : Nat) (d : Option Addr) (e : Nat) (T : Foot), l = lb + q ∧ (q = 0 ∨ (l : Int) ≤ ar) ∧ Box wr wv.heap.size #[.slice a m c, .slice d l e] ∧ Holds [wv.heap.size] wA.heap.size wr T (fun W => ORefs wv W T (.slice d l e) (i.arrays ++ List.replicate q [])) ∧ OffF (fun k => k = wv.heap.size) wA wr) (fun _ W => ar.toNat - lenAt W wv.heap.size 1)
            case atStart => exact ⟨0, lb, a8, c8, S8, rfl, .inl rfl, B7.out, by rw [List.replicate_zero, List.append_nil]; exact HH8.out, HOA.out⟩
            case round =>
              obtain ⟨q, l, d, e, T, hl, hq, hbx, hT, ho⟩ := hrel
              have HLL := Lib.hid hl
              have HQQ := Lib.hid hq
              have HHT := Lib.hid hT
              have HOQ := Lib.hid ho
              have HW : Hid (Below w.heap.size w wr) := Lib.hid (HWA.out.trans (ho.below HWA.out.size (fun k _ h => by have h9 : k = wv.heap.size := h; omega)))
              have B3 := Lib.hid (B3A.out.off ho (fun h => by have h9 : w.heap.size = wv.heap.size := h; omega))
              have B4 := Lib.hid (B4A.out.off ho (fun h => by have h9 : w.heap.size + 1 = wv.heap.size := h; omega))
              have B7 := Lib.hid hbx
              clear hl hq hbx hT ho HH8 HOA






              obtain ⟨lB3, cB3, fB3⟩ := B3.out
              obtain ⟨lB4, cB4, fB4⟩ := B4.out
              obtain ⟨lB7, cB7, fB7⟩ := B7.out
              by_cases hlt : (l : Int) < ar ∧ ar ≤ 8
              · obtain ⟨h1, h2⟩ := hlt
                have HLN : Hid ((i.arrays ++ List.replicate q []).length = l) := Lib.hid (by rw [List.length_append, List.length_replicate]; have := HLL.out; have := HDIM.out; omega)
                have hBOLD := B7
                have q1 : decide ((l : Int) < ar) = true := by simpa using h1
                have q2 : decide (ar ≤ 8) = true := by simpa using h2
                have hnb : ¬ T wv.heap.size := fun h => HHT.out.free _ h (by simp)
                go_wp2_with (at_builtin; go_loud (refine wpList_rsnoc (w0 := wv) rfl _ _ rfl HLN.out rfl rfl (HHT.out.alloc _).now (Box.new _ _ _) (by omega) ?_); intro d2 e2 w3 T2 hO hG hof; obtain ⟨ly, cy, fy⟩ := (B7.out.alloc (.cells #[.slice none 0 0] 22)).off hof hnb)
                clear ly cy fy
                have hnb3 : ¬ T w.heap.size := fun h => by have := HHT.out.base _ h; have := HWA.out.size; have := B3A.out.lt; omega
                have hnb4 : ¬ T (w.heap.size + 1) := fun h => by have := HHT.out.base _ h; have := B4A.out.lt; omega
                clear lB3 cB3 fB3 lB4 cB4 fB4 lB7 cB7 fB7
                clear q1 q2
                replace B3 := Lib.hid ((B3.out.alloc (.cells #[.slice none 0 0] 22)).off hof hnb3)
                replace B4 := Lib.hid ((B4.out.alloc (.cells #[.slice none 0 0] 22)).off hof hnb4)
                replace B7 := Lib.hid ((B7.out.alloc (.cells #[.slice none 0 0] 22)).off hof hnb)
                have hTb : ∀ k, T2 k → wA.heap.size ≤ k := fun k hk => by
                  rcases hG k hk with h | h
                  · exact HHT.out.base k h
                  · have := HOQ.out.size; simp at h; omega
                have HT2 : Hid (Holds [wv.heap.size] wA.heap.size w3 T2 (fun W => ORefs wv W T2 (.slice d2 (l + 1) e2) (i.arrays ++ List.replicate (q + 1) []))) := Lib.hid (by
                  rw [List.replicate_succ', ← List.append_assoc]
                  exact (holds_refs hO hTb).low (fun b hb => by have := B7A.out.lt; simp at hb; omega))
                have HO3 : Hid (OffF (fun k => k = wv.heap.size) wA w3) := Lib.hid (Off.grow (HOQ.out.alloc _) hof (fun k hk => .inr (HHT.out.base k hk)))
                clear hO hG hof hTb hnb hnb3 hnb4
                go_roundw
                case rel => exact ⟨q + 1, l + 1, d2, e2, T2, by have := HLL.out; omega, .inr (by omega), by simpa using B7.out.set 1 (.slice d2 (l + 1) e2), HT2.out.other _ (by simp), HO3.out.other _ (.inl rfl)⟩
                case measure =>
                  rw [lenAt_box (n := l + 1) (a := d2) (c := e2) (B7.out.set 1 (.slice d2 (l + 1) e2)) rfl, lenAt_box (n := l) (a := d) (c := e) hBOLD.out rfl]
                  omega
              · have hAA : Hid (OInts wr S (.slice a m c) (i.args ++ List.replicate n 0)) := Lib.hid (HHA.out.now.off HOQ.out (fun k hk h => HHA.out.free k hk (by have h9 : k = wv.heap.size := h; simp [h9])))
                have hfin : Hid (Below wv.heap.size wv wr) := Lib.hid (HV1.out.trans ((Off.grow HOF1.out HOQ.out (fun k hk => .inl hk)).below HV1.out.size (fun k _ h => by have h9 : k = wv.heap.size := h; omega)))
                have HWI : Hid (InputV wr (.agg #[.slice a m c, .slice d l e]) ⟨i.args ++ List.replicate n 0, i.arrays ++ List.replicate q []⟩) := Lib.hid ⟨_, _, rfl, hAA.out.ints, HHT.out.now.lists hfin.out⟩
                have HST : Hid (startS f i = startS f ⟨i.args ++ List.replicate n 0, i.arrays ++ List.replicate q []⟩) := Lib.hid (startS_eq (fun k hk => (getD_fill _ _ _ _).symm) (fun k hk => (getD_fill _ _ _ _).symm))
                clear hAA hfin
                have hcs : (decide ((l : Int) < ar) = false) ∨ (decide ((l : Int) < ar) = true ∧ decide (ar ≤ 8) = false) := by
                  by_cases h : (l : Int) < ar
                  · exact .inr ⟨by simpa using h, by simp; omega⟩
                  · exact .inl (by simpa using h)
                clear hlt
                rcases hcs with q1 | ⟨q1, q2⟩
                · go_upto_region 9 with (fail)
                  clear q1
                  refine Four.wp_region_grow (XF := (fun _ => Foot.none)) (I := (fun _ => True)) 11 (fun ν kz => match kz with | 0 => .const (.bool true) | 4 => .holds (fun u w' => Ran f i 500 u w') | 7 => .holds (fun u w' => Ran f ⟨i.args ++ List.replicate n 0, i.arrays ++ List.replicate q []⟩ 500 u w') | 8 => .const (.bool true) | _ => .plain) (by kernel_rfl) (by kernel_rfl) ?_ ?_ (fun _ _ h => h.elim) (fun _ _ _ _ => trivial) trivial ?_ (fun ν => ?_)
                  · (intro ν k; (try dsimp only); split <;> first | exact True.intro | (intro u w1 w2 hu hb; exact hu.later (hb.below (Nat.le_refl _) (fun _ _ ⟨_, _, h⟩ => h.elim))))
                  · (intro ν ν' k h; first | rfl | ((try dsimp only); split <;> first | rfl))
                  · (intro ν j B mk A h; (try dsimp only at h); split at h <;> first | (cases h; exact Nat.le_refl _) | cases h)
                  simp only [List.take_succ_cons, List.take_zero, List.drop_succ_cons, List.drop_zero]
                  refine Four.Grow.call (f := ?_) (args := ?_) rfl (fun wg => ?_) (fun wg hbg hdg => ?_) ?_
                  rotate_left 2
                  focus (first | (go_simp; done) | (go_simp; refine And.intro ?_ ?_ <;> with_reducible rfl) | (go_simp; with_reducible rfl))
                  focus exact Calls.mono (awake6) (fun e w2 ⟨he, hb2⟩ => ⟨_, he, rfl, hb2⟩)
                  simp only [Act.put, Known.val, List.setIfInBounds_toArray, List.set_cons_zero, List.set_cons_succ]
                  iterate 3 (refine Four.Grow.val (v := ?_) rfl rfl (fun wg hbg hdg => ?_) ?_; rotate_left; (focus ((obtain ⟨lg0, cg0, fg0⟩ := B3.out.off hbg.off (fun ⟨_, h⟩ => h.elim)); (obtain ⟨lg1, cg1, fg1⟩ := B4.out.off hbg.off (fun ⟨_, h⟩ => h.elim)); (obtain ⟨lg2, cg2, fg2⟩ := B7.out.off hbg.off (fun ⟨_, h⟩ => h.elim)); clear hbg hdg; first | (go_simp; done) | (go_simp; with_reducible rfl))); simp only [Act.put, List.setIfInBounds_toArray, List.set_cons_zero, List.set_cons_succ])
                  refine Four.Grow.call (f := ?_) (args := ?_) rfl (fun wg => ?_) (fun wg hbg hdg => ?_) ?_
                  rotate_left 2
                  focus (first | (go_simp; done) | (go_simp; refine And.intro ?_ ?_ <;> with_reducible rfl) | (go_simp; with_reducible rfl))
                  focus (exact (runC (HV.out.below (HW.out.trans ((pre0 hbg).mono HW.out.size))) (HI.out.below (HW.out.trans ((pre0 hbg).mono HW.out.size))) ⟨by decide, by decide⟩).mono (fun e w2 ⟨v, t, he, hp, ht, hb⟩ => ⟨v, he, ⟨t, hp, ht⟩, hb⟩))
                  simp only [Act.put, Known.val, List.setIfInBounds_toArray, List.set_cons_zero, List.set_cons_succ]
                  iterate 2 (refine Four.Grow.val (v := ?_) rfl rfl (fun wg hbg hdg => ?_) ?_; rotate_left; (focus ((obtain ⟨lg0, cg0, fg0⟩ := B3.out.off hbg.off (fun ⟨_, h⟩ => h.elim)); (obtain ⟨lg1, cg1, fg1⟩ := B4.out.off hbg.off (fun ⟨_, h⟩ => h.elim)); (obtain ⟨lg2, cg2, fg2⟩ := B7.out.off hbg.off (fun ⟨_, h⟩ => h.elim)); clear hbg hdg; first | (go_simp; done) | (go_simp; with_reducible rfl))); simp only [Act.put, List.setIfInBounds_toArray, List.set_cons_zero, List.set_cons_succ])
                  refine Four.Grow.call (f := ?_) (args := ?_) rfl (fun wg => ?_) (fun wg hbg hdg => ?_) ?_
                  rotate_left 2
                  focus (first | (go_simp; done) | (go_simp; refine And.intro ?_ ?_ <;> with_reducible rfl) | (go_simp; with_reducible rfl))
                  focus (exact (runC (HV.out.below (HW.out.trans ((pre0 hbg).mono HW.out.size))) (HWI.out.below (pre0 hbg)) ⟨by decide, by decide⟩).mono (fun e w2 ⟨v, t, he, hp, ht, hb⟩ => ⟨v, he, ⟨t, hp, ht⟩, hb⟩))
                  simp only [Act.put, Known.val, List.setIfInBounds_toArray, List.set_cons_zero, List.set_cons_succ]
                  refine Four.Grow.call (f := ?_) (args := ?_) rfl (fun wg => ?_) (fun wg hbg hdg => ?_) ?_
                  rotate_left 2
                  focus (first | (go_simp; done) | (go_simp; refine And.intro ?_ ?_ <;> with_reducible rfl) | (go_simp; with_reducible rfl))
                  focus exact Calls.mono ((same_of_runs HST.out (hdg 4 (by kernel_rfl)) (hdg 7 (by kernel_rfl)))) (fun e w2 ⟨he, hb2⟩ => ⟨_, he, rfl, hb2⟩)
                  simp only [Act.put, Known.val, List.setIfInBounds_toArray, List.set_cons_zero, List.set_cons_succ]
                  iterate 2 (refine Four.Grow.val (v := ?_) rfl rfl (fun wg hbg hdg => ?_) ?_; rotate_left; (focus ((obtain ⟨lg0, cg0, fg0⟩ := B3.out.off hbg.off (fun ⟨_, h⟩ => h.elim)); (obtain ⟨lg1, cg1, fg1⟩ := B4.out.off hbg.off (fun ⟨_, h⟩ => h.elim)); (obtain ⟨lg2, cg2, fg2⟩ := B7.out.off hbg.off (fun ⟨_, h⟩ => h.elim)); clear hbg hdg; first | (go_simp; done) | (go_simp; with_reducible rfl))); simp only [Act.put, List.setIfInBounds_toArray, List.set_cons_zero, List.set_cons_succ])
                  intro wg hb hf hap
                  clear hap
                  clear lB3 cB3 fB3 lB4 cB4 fB4 lB7 cB7 fB7
                  replace B3 := Lib.hid (B3.out.off hb.1 (fun ⟨_, h⟩ => h.elim))
                  replace B4 := Lib.hid (B4.out.off hb.1 (fun ⟨_, h⟩ => h.elim))
                  replace B7 := Lib.hid (B7.out.off hb.1 (fun ⟨_, h⟩ => h.elim))
                  replace HW := Lib.hid (HW.out.trans (hb.1.below HW.out.size (fun _ _ ⟨_, h⟩ => h.elim)))
                  obtain ⟨lB3, cB3, fB3⟩ := B3.out
                  obtain ⟨lB4, cB4, fB4⟩ := B4.out
                  obtain ⟨lB7, cB7, fB7⟩ := B7.out
                  clear hf
                  go_wp2
                  go_ret
                  exact ⟨rfl, HW.out⟩
                · go_upto_region 9 with (fail)
                  clear q1 q2
                  refine Four.wp_region_grow (XF := (fun _ => Foot.none)) (I := (fun _ => True)) 11 (fun ν kz => match kz with | 0 => .const (.bool true) | 4 => .holds (fun u w' => Ran f i 500 u w') | 7 => .holds (fun u w' => Ran f ⟨i.args ++ List.replicate n 0, i.arrays ++ List.replicate q []⟩ 500 u w') | 8 => .const (.bool true) | _ => .plain) (by kernel_rfl) (by kernel_rfl) ?_ ?_ (fun _ _ h => h.elim) (fun _ _ _ _ => trivial) trivial ?_ (fun ν => ?_)
                  · (intro ν k; (try dsimp only); split <;> first | exact True.intro | (intro u w1 w2 hu hb; exact hu.later (hb.below (Nat.le_refl _) (fun _ _ ⟨_, _, h⟩ => h.elim))))
                  · (intro ν ν' k h; first | rfl | ((try dsimp only); split <;> first | rfl))
                  · (intro ν j B mk A h; (try dsimp only at h); split at h <;> first | (cases h; exact Nat.le_refl _) | cases h)
                  simp only [List.take_succ_cons, List.take_zero, List.drop_succ_cons, List.drop_zero]
                  refine Four.Grow.call (f := ?_) (args := ?_) rfl (fun wg => ?_) (fun wg hbg hdg => ?_) ?_
                  rotate_left 2
                  focus (first | (go_simp; done) | (go_simp; refine And.intro ?_ ?_ <;> with_reducible rfl) | (go_simp; with_reducible rfl))
                  focus exact Calls.mono (awake6) (fun e w2 ⟨he, hb2⟩ => ⟨_, he, rfl, hb2⟩)
                  simp only [Act.put, Known.val, List.setIfInBounds_toArray, List.set_cons_zero, List.set_cons_succ]
                  iterate 3 (refine Four.Grow.val (v := ?_) rfl rfl (fun wg hbg hdg => ?_) ?_; rotate_left; (focus ((obtain ⟨lg0, cg0, fg0⟩ := B3.out.off hbg.off (fun ⟨_, h⟩ => h.elim)); (obtain ⟨lg1, cg1, fg1⟩ := B4.out.off hbg.off (fun ⟨_, h⟩ => h.elim)); (obtain ⟨lg2, cg2, fg2⟩ := B7.out.off hbg.off (fun ⟨_, h⟩ => h.elim)); clear hbg hdg; first | (go_simp; done) | (go_simp; with_reducible rfl))); simp only [Act.put, List.setIfInBounds_toArray, List.set_cons_zero, List.set_cons_succ])
                  refine Four.Grow.call (f := ?_) (args := ?_) rfl (fun wg => ?_) (fun wg hbg hdg => ?_) ?_
                  rotate_left 2
                  focus (first | (go_simp; done) | (go_simp; refine And.intro ?_ ?_ <;> with_reducible rfl) | (go_simp; with_reducible rfl))
                  focus (exact (runC (HV.out.below (HW.out.trans ((pre0 hbg).mono HW.out.size))) (HI.out.below (HW.out.trans ((pre0 hbg).mono HW.out.size))) ⟨by decide, by decide⟩).mono (fun e w2 ⟨v, t, he, hp, ht, hb⟩ => ⟨v, he, ⟨t, hp, ht⟩, hb⟩))
                  simp only [Act.put, Known.val, List.setIfInBounds_toArray, List.set_cons_zero, List.set_cons_succ]
                  iterate 2 (refine Four.Grow.val (v := ?_) rfl rfl (fun wg hbg hdg => ?_) ?_; rotate_left; (focus ((obtain ⟨lg0, cg0, fg0⟩ := B3.out.off hbg.off (fun ⟨_, h⟩ => h.elim)); (obtain ⟨lg1, cg1, fg1⟩ := B4.out.off hbg.off (fun ⟨_, h⟩ => h.elim)); (obtain ⟨lg2, cg2, fg2⟩ := B7.out.off hbg.off (fun ⟨_, h⟩ => h.elim)); clear hbg hdg; first | (go_simp; done) | (go_simp; with_reducible rfl))); simp only [Act.put, List.setIfInBounds_toArray, List.set_cons_zero, List.set_cons_succ])
                  refine Four.Grow.call (f := ?_) (args := ?_) rfl (fun wg => ?_) (fun wg hbg hdg => ?_) ?_
                  rotate_left 2
                  focus (first | (go_simp; done) | (go_simp; refine And.intro ?_ ?_ <;> with_reducible rfl) | (go_simp; with_reducible rfl))
                  focus (exact (runC (HV.out.below (HW.out.trans ((pre0 hbg).mono HW.out.size))) (HWI.out.below (pre0 hbg)) ⟨by decide, by decide⟩).mono (fun e w2 ⟨v, t, he, hp, ht, hb⟩ => ⟨v, he, ⟨t, hp, ht⟩, hb⟩))
                  simp only [Act.put, Known.val, List.setIfInBounds_toArray, List.set_cons_zero, List.set_cons_succ]
                  refine Four.Grow.call (f := ?_) (args := ?_) rfl (fun wg => ?_) (fun wg hbg hdg => ?_) ?_
                  rotate_left 2
                  focus (first | (go_simp; done) | (go_simp; refine And.intro ?_ ?_ <;> with_reducible rfl) | (go_simp; with_reducible rfl))
                  focus exact Calls.mono ((same_of_runs HST.out (hdg 4 (by kernel_rfl)) (hdg 7 (by kernel_rfl)))) (fun e w2 ⟨he, hb2⟩ => ⟨_, he, rfl, hb2⟩)
                  simp only [Act.put, Known.val, List.setIfInBounds_toArray, List.set_cons_zero, List.set_cons_succ]
                  iterate 2 (refine Four.Grow.val (v := ?_) rfl rfl (fun wg hbg hdg => ?_) ?_; rotate_left; (focus ((obtain ⟨lg0, cg0, fg0⟩ := B3.out.off hbg.off (fun ⟨_, h⟩ => h.elim)); (obtain ⟨lg1, cg1, fg1⟩ := B4.out.off hbg.off (fun ⟨_, h⟩ => h.elim)); (obtain ⟨lg2, cg2, fg2⟩ := B7.out.off hbg.off (fun ⟨_, h⟩ => h.elim)); clear hbg hdg; first | (go_simp; done) | (go_simp; with_reducible rfl))); simp only [Act.put, List.setIfInBounds_toArray, List.set_cons_zero, List.set_cons_succ])
                  intro wg hb hf hap
                  clear hap
                  clear lB3 cB3 fB3 lB4 cB4 fB4 lB7 cB7 fB7
                  replace B3 := Lib.hid (B3.out.off hb.1 (fun ⟨_, h⟩ => h.elim))
                  replace B4 := Lib.hid (B4.out.off hb.1 (fun ⟨_, h⟩ => h.elim))
                  replace B7 := Lib.hid (B7.out.off hb.1 (fun ⟨_, h⟩ => h.elim))
                  replace HW := Lib.hid (HW.out.trans (hb.1.below HW.out.size (fun _ _ ⟨_, h⟩ => h.elim)))
                  obtain ⟨lB3, cB3, fB3⟩ := B3.out
                  obtain ⟨lB4, cB4, fB4⟩ := B4.out
                  obtain ⟨lB7, cB7, fB7⟩ := B7.out
                  clear hf
                  go_wp2
                  go_ret
                  exact ⟨rfl, HW.out⟩
  · have q1 : decide ((la : Int) < (np : Int)) = false := by simp; omega
    have q2 : decide ((lb : Int) < ar) = false := by simp; omega
    go_upto_region 10 with (fail)
    clear q1 q2
    refine Seven.wp_region_grow 15 (fun kz => match kz with | 3 => some 5 | 9 => some 12 | _ => none) (fun ν kz => match kz with | 0 => .holds (fun u φ w' => ∃ a, u = .slice a 0 0) | 3 => .holds (fun u φ w' => ∃ b c, u = .slice b la c ∧ OInts w' φ u i.args) | 5 => .holds (fun u φ w' => ∃ b c, u = .slice b (la + lm) c ∧ OInts w' φ u (i.args ++ more)) | 6 => .holds (fun u φ w' => ∃ a, u = .slice a 0 0) | 9 => .holds (fun u φ w' => ∃ b c, u = .slice b lb c ∧ ORefs wv w' φ u i.arrays) | 11 => .holds (Seven.MadeS (fun b => .slice (some ⟨b, 0, none⟩) 1 1) #[.slice am lm cm]) | 12 => .holds (fun u φ w' => ∃ b c, u = .slice b (lb + 1) c ∧ ORefs wv w' φ u (i.arrays ++ [more])) | 13 => .holds (fun u φ w' => u = .agg #[(ν 5).1, (ν 12).1]) | 14 => .holds (Seven.MadeS (fun b => .pointer (some ⟨b, 0, none⟩)) #[.slice none 0 0, .slice none 0 0]) | _ => .plain) (by kernel_rfl) (by kernel_rfl) ?_ ?_ ?_ (fun ν => ?_)
    · (intro ν k; (try dsimp only); split <;> first | exact True.intro | (intro u φ w1 w2 D hu ho hoff hDb hlt hn; first | exact Seven.MadeS.off hu ho hoff | (first | exact hu | (obtain ⟨b, c, e, h⟩ := hu; exact ⟨b, c, e, h.off ho hoff⟩))))
    · (intro ν ν' k h; first | rfl | ((try dsimp only); split <;> first | rfl | (rw [h 5 (by kernel_rfl), h 12 (by kernel_rfl)])))
    · (intro j k h; (try dsimp only at h); split at h <;> first | (cases h; done) | (cases h; exact ⟨by kernel_rfl, by omega⟩))
    simp only [List.take_succ_cons, List.take_zero, List.drop_succ_cons, List.drop_zero]
    refine Seven.Grow.gives rfl (by intro h; cases h) (fun wg hbg hdg => ?_) ?_
    focus (refine ⟨.slice (some ⟨wg.heap.size, 0, none⟩) 0 0, wg.alloc (.cells #[] 3), ?_, Foot.none, ⟨_, rfl⟩, Off.alloc _ _ _, fun _ h => h.elim⟩; clear hbg hdg; (first | (go_simp; done) | (go_simp; with_reducible rfl)))
    simp only [Act.put, Seven.Known.val, List.setIfInBounds_toArray, List.set_cons_zero, List.set_cons_succ]
    iterate 2 (refine Seven.Grow.val (v := ?_) rfl rfl (fun wg hbg hdg => ?_) ?_; rotate_left; (focus ((obtain ⟨lg0, cg0, fg0⟩ := B3.out.later hbg); (obtain ⟨lg1, cg1, fg1⟩ := B4.out.later hbg); clear hbg hdg; first | (go_simp; done) | (go_simp; with_reducible rfl))); simp only [Act.put, List.setIfInBounds_toArray, List.set_cons_zero, List.set_cons_succ])
    refine Seven.Grow.gives rfl (by intro h; cases h) (fun wg hbg hdg => ?_) ?_
    focus ((have h0 : ∃ a, (ν 0).1 = .slice a 0 0 := hdg.fact 0 ⟨by kernel_rfl, .inl rfl⟩); (obtain ⟨a0, e0⟩ := h0); simp only [e0]; exact gives7_iapp (v := .slice a0 0 0) (xv := .slice aa la ca) (xs := []) (ys := i.args) _ _ rfl rfl rfl (OInts.nil a0) (HUA.out.below (HW.out.trans (hbg.mono HW.out.size))) (by have := HLEN.out; have := HDIM.out; simp; omega) (fun _ h => h.elim) (fun b c φ w' h => ⟨b, c, by rw [HDIM.out.2.2.1, List.length_nil, Nat.zero_add], h⟩))
    simp only [Act.put, Seven.Known.val, List.setIfInBounds_toArray, List.set_cons_zero, List.set_cons_succ]
    refine Seven.Grow.val (v := ?_) rfl rfl (fun wg hbg hdg => ?_) ?_
    rotate_left
    focus ((obtain ⟨lg0, cg0, fg0⟩ := B3.out.later hbg); (obtain ⟨lg1, cg1, fg1⟩ := B4.out.later hbg); clear hbg hdg; first | (go_simp; done) | (go_simp; with_reducible rfl))
    simp only [Act.put, List.setIfInBounds_toArray, List.set_cons_zero, List.set_cons_succ]
    refine Seven.Grow.gives rfl (by intro h; cases h) (fun wg hbg hdg => ?_) ?_
    focus ((have h3 : ∃ b c, (ν 3).1 = .slice b la c ∧ OInts wg (ν 3).2 (ν 3).1 i.args := hdg.fact 3 ⟨by kernel_rfl, .inr rfl⟩); (obtain ⟨b3, c3, e3, h3⟩ := h3); exact gives7_iapp (v := (ν 3).1) (xv := .slice am lm cm) (xs := i.args) (ys := more) _ _ rfl rfl rfl h3 (HM.out.below (HW.out.trans (hbg.mono HW.out.size))) (by have := HLEN.out; omega) (fun _ h => ⟨3, rfl, h⟩) (fun b c φ w' h => ⟨b, c, by rw [HDIM.out.2.2.1, HDIM.out.2.2.2.2], h⟩))
    simp only [Act.put, Seven.Known.val, List.setIfInBounds_toArray, List.set_cons_zero, List.set_cons_succ]
    refine Seven.Grow.gives rfl (by intro h; cases h) (fun wg hbg hdg => ?_) ?_
    focus (refine ⟨.slice (some ⟨wg.heap.size, 0, none⟩) 0 0, wg.alloc (.cells #[] 22), ?_, Foot.none, ⟨_, rfl⟩, Off.alloc _ _ _, fun _ h => h.elim⟩; clear hbg hdg; (first | (go_simp; done) | (go_simp; with_reducible rfl)))
    simp only [Act.put, Seven.Known.val, List.setIfInBounds_toArray, List.set_cons_zero, List.set_cons_succ]
    iterate 2 (refine Seven.Grow.val (v := ?_) rfl rfl (fun wg hbg hdg => ?_) ?_; rotate_left; (focus ((obtain ⟨lg0, cg0, fg0⟩ := B3.out.later hbg); (obtain ⟨lg1, cg1, fg1⟩ := B4.out.later hbg); clear hbg hdg; first | (go_simp; done) | (go_simp; with_reducible rfl))); simp only [Act.put, List.setIfInBounds_toArray, List.set_cons_zero, List.set_cons_succ])
    refine Seven.Grow.gives rfl (by intro h; cases h) (fun wg hbg hdg => ?_) ?_
    focus ((have h6 : ∃ a, (ν 6).1 = .slice a 0 0 := hdg.fact 6 ⟨by kernel_rfl, .inl rfl⟩); (obtain ⟨a6, e6⟩ := h6); simp only [e6]; exact gives7_rapp (w0 := wv) (v := .slice a6 0 0) (xv := .slice b5 lb c5) (xs := []) (ys := i.arrays) _ _ rfl rfl rfl (ORefs.nil a6) (by rw [← HDIM.out.2.2.2.1]; exact HN2.out.below (HW.out.trans (hbg.mono HW.out.size))) (by rw [← HDIM.out.2.2.2.1]; exact HN1.out) (by rw [← HDIM.out.2.2.2.1]; exact HN3.out) (by have := HLEN.out; simp; omega) (fun _ h => h.elim) (fun b c φ w' h => ⟨b, c, by rw [HDIM.out.2.2.2.1, List.length_nil, Nat.zero_add], h⟩))
    simp only [Act.put, Seven.Known.val, List.setIfInBounds_toArray, List.set_cons_zero, List.set_cons_succ]
    refine Seven.Grow.val (v := ?_) rfl rfl (fun wg hbg hdg => ?_) ?_
    rotate_left
    focus ((obtain ⟨lg0, cg0, fg0⟩ := B3.out.later hbg); (obtain ⟨lg1, cg1, fg1⟩ := B4.out.later hbg); clear hbg hdg; first | (go_simp; done) | (go_simp; with_reducible rfl))
    simp only [Act.put, List.setIfInBounds_toArray, List.set_cons_zero, List.set_cons_succ]
    refine Seven.Grow.made (T := ?_) rfl rfl (fun wg hbg hdg => ?_) ?_
    rotate_left
    focus ((obtain ⟨lg0, cg0, fg0⟩ := B3.out.later hbg); (obtain ⟨lg1, cg1, fg1⟩ := B4.out.later hbg); clear hbg hdg; first | (go_simp; done) | (go_simp; with_reducible rfl))
    simp only [Act.put, Seven.Known.val, List.setIfInBounds_toArray, List.set_cons_zero, List.set_cons_succ]
    refine Seven.Grow.gives rfl (by intro h; cases h) (fun wg hbg hdg => ?_) ?_
    focus ((have h9 : ∃ b c, (ν 9).1 = .slice b lb c ∧ ORefs wv wg (ν 9).2 (ν 9).1 i.arrays := hdg.fact 9 ⟨by kernel_rfl, .inr rfl⟩); (have h11 : Seven.MadeS (fun b => .slice (some ⟨b, 0, none⟩) 1 1) #[.slice am lm cm] (ν 11).1 (ν 11).2 wg := hdg.fact 11 ⟨by kernel_rfl, .inl rfl⟩); (obtain ⟨b9, c9, e9, h9⟩ := h9); (obtain ⟨b11, e11, -, h11⟩ := h11); simp only [e11]; exact gives7_rapp (w0 := wv) (v := (ν 9).1) (xv := .slice (some ⟨b11, 0, none⟩) 1 1) (xs := i.arrays) (ys := [more]) _ _ rfl rfl rfl h9 (row_box (n := 1) (size := 1) (ds := [.slice am lm cm]) h11 rfl (by omega)) rfl (fun j hj => by have hj0 : j = 0 := (by simp at hj; omega); subst hj0; exact HM.out.below HW.out) (by have := HLEN.out; simp; omega) (fun _ h => ⟨9, rfl, h⟩) (fun b c φ w' h => ⟨b, c, by rw [HDIM.out.2.2.2.1]; rfl, h⟩))
    simp only [Act.put, Seven.Known.val, List.setIfInBounds_toArray, List.set_cons_zero, List.set_cons_succ]
    refine Seven.Grow.gives rfl (by intro h; cases h) (fun wg hbg hdg => ?_) ?_
    focus ((have h5 : ∃ b c, (ν 5).1 = .slice b (la + lm) c ∧ OInts wg (ν 5).2 (ν 5).1 (i.args ++ more) := hdg.fact 5 ⟨by kernel_rfl, .inl rfl⟩); (have h12 : ∃ b c, (ν 12).1 = .slice b (lb + 1) c ∧ ORefs wv wg (ν 12).2 (ν 12).1 (i.arrays ++ [more]) := hdg.fact 12 ⟨by kernel_rfl, .inl rfl⟩); (obtain ⟨x5, y5, e5, -⟩ := h5); (obtain ⟨x6, y6, e6, -⟩ := h12); refine ⟨.agg #[(ν 5).1, (ν 12).1], wg, ?_, Foot.none, rfl, Off.refl _ _, fun _ h => h.elim⟩; clear hbg hdg; simp only [e5, e6]; (first | (go_simp; done) | (go_simp; with_reducible rfl)))
    simp only [Act.put, Seven.Known.val, List.setIfInBounds_toArray, List.set_cons_zero, List.set_cons_succ]
    refine Seven.Grow.made (T := ?_) rfl rfl (fun wg hbg hdg => ?_) ?_
    rotate_left
    focus ((obtain ⟨lg0, cg0, fg0⟩ := B3.out.later hbg); (obtain ⟨lg1, cg1, fg1⟩ := B4.out.later hbg); clear hbg hdg; first | (go_simp; done) | (go_simp; with_reducible rfl))
    simp only [Act.put, Seven.Known.val, List.setIfInBounds_toArray, List.set_cons_zero, List.set_cons_succ]
    intro wg hb hf
    obtain ⟨bBR, hνBR, hφBR, hXBR⟩ := hf.fact 11 ⟨by omega, rfl⟩
    have hBBR : wv.heap.size ≤ bBR := hf.base 11 bBR ⟨by omega, rfl⟩ ((hφBR bBR).2 rfl)
    have nBRB3 : bBR ≠ w.heap.size := fun e => by have := lB3; omega
    have nB3BR : w.heap.size ≠ bBR := fun e => nBRB3 e.symm
    have nBRB4 : bBR ≠ w.heap.size + 1 := fun e => by have := lB4; omega
    have nB4BR : w.heap.size + 1 ≠ bBR := fun e => nBRB4 e.symm
    obtain ⟨bBW, hνBW, hφBW, hXBW⟩ := hf.fact 14 ⟨by omega, rfl⟩
    have hBBW : wv.heap.size ≤ bBW := hf.base 14 bBW ⟨by omega, rfl⟩ ((hφBW bBW).2 rfl)
    have nBWB3 : bBW ≠ w.heap.size := fun e => by have := lB3; omega
    have nB3BW : w.heap.size ≠ bBW := fun e => nBWB3 e.symm
    have nBWB4 : bBW ≠ w.heap.size + 1 := fun e => by have := lB4; omega
    have nB4BW : w.heap.size + 1 ≠ bBW := fun e => nBWB4 e.symm
    have nBRBW : bBR ≠ bBW := fun e => hf.apart 11 14 ⟨by omega, rfl⟩ ⟨by omega, rfl⟩ (by omega) bBR ((hφBR bBR).2 rfl) ((hφBW bBR).2 e)
    have nBWBR : bBW ≠ bBR := fun e => hf.apart 14 11 ⟨by omega, rfl⟩ ⟨by omega, rfl⟩ (by omega) bBW ((hφBW bBW).2 rfl) ((hφBR bBW).2 e)
    simp only [hνBR, hνBW]
    clear hνBR hνBW
    have gBR := Nat.le_trans HW.out.size hBBR
    clear hBBR
    have gBW := Nat.le_trans HW.out.size hBBW
    clear hBBW
    clear lB3 cB3 fB3 lB4 cB4 fB4
    have hbv := hb
    replace B3 := Lib.hid (B3.out.later hb)
    replace B4 := Lib.hid (B4.out.later hb)
    replace HW := Lib.hid (HW.out.trans (hb.mono HW.out.size))
    clear hb
    have BR := Lib.hid hXBR
    clear hXBR
    have BW := Lib.hid hXBW
    clear hXBW
    obtain ⟨lB3, cB3, fB3⟩ := B3.out
    obtain ⟨lB4, cB4, fB4⟩ := B4.out
    obtain ⟨lBR, cBR, fBR⟩ := BR.out
    obtain ⟨lBW, cBW, fBW⟩ := BW.out
    simp only [Nat.zero_add, Nat.reduceAdd]
    have h5 : ∃ b c, (ν 5).1 = .slice b (la + lm) c ∧ OInts wg (ν 5).2 (ν 5).1 (i.args ++ more) := hf.fact 5 ⟨by omega, rfl⟩
    have h12 : ∃ b c, (ν 12).1 = .slice b (lb + 1) c ∧ ORefs wv wg (ν 12).2 (ν 12).1 (i.arrays ++ [more]) := hf.fact 12 ⟨by omega, rfl⟩
    have h13 : (ν 13).1 = .agg #[(ν 5).1, (ν 12).1] := hf.fact 13 ⟨by omega, rfl⟩
    have n5 : ∀ k, (ν 5).2 k → ¬ k = bBW := fun k h e => hf.apart 5 14 ⟨by omega, rfl⟩ ⟨by omega, rfl⟩ (by omega) k h ((hφBW _).2 e)
    have n12 : ∀ k, (ν 12).2 k → ¬ k = bBW := fun k h e => hf.apart 12 14 ⟨by omega, rfl⟩ ⟨by omega, rfl⟩ (by omega) k h ((hφBW _).2 e)
    have gBW2 : wv.heap.size ≤ bBW := hf.base 14 bBW ⟨by omega, rfl⟩ ((hφBW _).2 rfl)
    obtain ⟨x5, y5, e5, h5⟩ := h5
    obtain ⟨x6, y6, e6, h6⟩ := h12
    rw [e5] at h5
    rw [e6] at h6
    have H5 := Lib.hid h5
    have H6 := Lib.hid h6
    have N5 := Lib.hid n5
    have N6 := Lib.hid n12
    have HOZ : Hid (OffF (fun k => k = bBW) wg wg) := Lib.hid (Off.refl _ _)
    have HBV : Hid (Below wv.heap.size wv wg) := Lib.hid hbv
    simp only [h13, e5, e6]
    clear hf h5 h6 h13 e5 e6 n5 n12 hφBW hφBR hbv

    go_upto_region 11 with (fail)
    have B3_ : Box ((wg.setCell ⟨bBW, 0, none⟩ (.slice x5 (la + lm) y5)).setCell ⟨bBW, 1, none⟩ (.slice x6 (lb + 1) y6)) (w.heap.size) #[.slice ap np cp, .int .i64 ar, .int .i64 f.cells, .slice ab f.blocks.length cb] := by simpa using ((B3.out.other (p := ⟨bBW, 0, none⟩) (.slice x5 (la + lm) y5) (by first | assumption | (simp; done) | omega | (dsimp only; omega))).other (p := ⟨bBW, 1, none⟩) (.slice x6 (lb + 1) y6) (by first | assumption | (simp; done) | omega | (dsimp only; omega)))
    have B4_ : Box ((wg.setCell ⟨bBW, 0, none⟩ (.slice x5 (la + lm) y5)).setCell ⟨bBW, 1, none⟩ (.slice x6 (lb + 1) y6)) (w.heap.size + 1) #[.slice aa la ca, .slice b5 lb c5] := by simpa using ((B4.out.other (p := ⟨bBW, 0, none⟩) (.slice x5 (la + lm) y5) (by first | assumption | (simp; done) | omega | (dsimp only; omega))).other (p := ⟨bBW, 1, none⟩) (.slice x6 (lb + 1) y6) (by first | assumption | (simp; done) | omega | (dsimp only; omega)))
    have BR_ : Box ((wg.setCell ⟨bBW, 0, none⟩ (.slice x5 (la + lm) y5)).setCell ⟨bBW, 1, none⟩ (.slice x6 (lb + 1) y6)) (bBR) #[.slice am lm cm] := by simpa using ((BR.out.other (p := ⟨bBW, 0, none⟩) (.slice x5 (la + lm) y5) (by first | assumption | (simp; done) | omega | (dsimp only; omega))).other (p := ⟨bBW, 1, none⟩) (.slice x6 (lb + 1) y6) (by first | assumption | (simp; done) | omega | (dsimp only; omega)))
    have BW_ : Box ((wg.setCell ⟨bBW, 0, none⟩ (.slice x5 (la + lm) y5)).setCell ⟨bBW, 1, none⟩ (.slice x6 (lb + 1) y6)) (bBW) #[(.slice x5 (la + lm) y5), (.slice x6 (lb + 1) y6)] := by simpa using ((BW.out.set 0 (.slice x5 (la + lm) y5)).set 1 (.slice x6 (lb + 1) y6))
    have HOZ_ := ((HOZ.out.other (p := ⟨bBW, 0, none⟩) (.slice x5 (la + lm) y5) (by simp)).other (p := ⟨bBW, 1, none⟩) (.slice x6 (lb + 1) y6) (by simp))
    have HW_ : Below w.heap.size w ((wg.setCell ⟨bBW, 0, none⟩ (.slice x5 (la + lm) y5)).setCell ⟨bBW, 1, none⟩ (.slice x6 (lb + 1) y6)) := ((HW.out.setCell (p := ⟨bBW, 0, none⟩) (by first | assumption | omega | (dsimp only; omega) | (have := HW.out.size; omega) | (simp; done) | (simp; omega)) (.slice x5 (la + lm) y5)).setCell (p := ⟨bBW, 1, none⟩) (by first | assumption | omega | (dsimp only; omega) | (have := HW.out.size; omega) | (simp; done) | (simp; omega)) (.slice x6 (lb + 1) y6))
    clear lB3 cB3 fB3 lB4 cB4 fB4 lBR cBR fBR lBW cBW fBW
    clear B3 B4 BR BW HOZ HW
    generalize ((wg.setCell ⟨bBW, 0, none⟩ (.slice x5 (la + lm) y5)).setCell ⟨bBW, 1, none⟩ (.slice x6 (lb + 1) y6)) = w5 at *
    have B3 := Lib.hid B3_
    clear B3_
    have B4 := Lib.hid B4_
    clear B4_
    have BR := Lib.hid BR_
    clear BR_
    have BW := Lib.hid BW_
    clear BW_
    have HOZ := Lib.hid HOZ_
    clear HOZ_
    have HW := Lib.hid HW_
    clear HW_
    obtain ⟨lB3, cB3, fB3⟩ := B3.out
    obtain ⟨lB4, cB4, fB4⟩ := B4.out
    obtain ⟨lBR, cBR, fBR⟩ := BR.out
    obtain ⟨lBW, cBW, fBW⟩ := BW.out
    have HWI : Hid (InputV w5 (.agg #[.slice x5 (la + lm) y5, .slice x6 (lb + 1) y6]) ⟨i.args ++ more, i.arrays ++ [more]⟩) := Lib.hid ⟨_, _, rfl, (H5.out.off HOZ.out N5.out).ints, (H6.out.off HOZ.out N6.out).lists (HBV.out.trans (HOZ.out.below HBV.out.size (fun k _ h => by have h9 : k = bBW := h; omega)))⟩
    have HST : Hid (startS f i = startS f ⟨i.args ++ more, i.arrays ++ [more]⟩) := Lib.hid (startS_eq (fun k hk => (getD_more _ _ _ (by have := HDIM.out; omega)).symm) (fun k hk => (getD_more _ _ _ (by have := HDIM.out; omega)).symm))
    clear H5 H6 N5 N6 HOZ HBV

    refine Four.wp_region_grow (XF := (fun _ => Foot.none)) (I := (fun _ => True)) 11 (fun ν kz => match kz with | 0 => .const (.bool true) | 4 => .holds (fun u w' => Ran f i 500 u w') | 7 => .holds (fun u w' => Ran f ⟨i.args ++ more, i.arrays ++ [more]⟩ 500 u w') | 8 => .const (.bool true) | _ => .plain) (by kernel_rfl) (by kernel_rfl) ?_ ?_ (fun _ _ h => h.elim) (fun _ _ _ _ => trivial) trivial ?_ (fun ν => ?_)
    · (intro ν k; (try dsimp only); split <;> first | exact True.intro | (intro u w1 w2 hu hb; exact hu.later (hb.below (Nat.le_refl _) (fun _ _ ⟨_, _, h⟩ => h.elim))))
    · (intro ν ν' k h; first | rfl | ((try dsimp only); split <;> first | rfl))
    · (intro ν j B mk A h; (try dsimp only at h); split at h <;> first | (cases h; exact Nat.le_refl _) | cases h)
    simp only [List.take_succ_cons, List.take_zero, List.drop_succ_cons, List.drop_zero]
    refine Four.Grow.call (f := ?_) (args := ?_) rfl (fun wg => ?_) (fun wg hbg hdg => ?_) ?_
    rotate_left 2
    focus (first | (go_simp; done) | (go_simp; refine And.intro ?_ ?_ <;> with_reducible rfl) | (go_simp; with_reducible rfl))
    focus exact Calls.mono (awake6) (fun e w2 ⟨he, hb2⟩ => ⟨_, he, rfl, hb2⟩)
    simp only [Act.put, Known.val, List.setIfInBounds_toArray, List.set_cons_zero, List.set_cons_succ]
    iterate 3 (refine Four.Grow.val (v := ?_) rfl rfl (fun wg hbg hdg => ?_) ?_; rotate_left; (focus ((obtain ⟨lg0, cg0, fg0⟩ := B3.out.off hbg.off (fun ⟨_, h⟩ => h.elim)); (obtain ⟨lg1, cg1, fg1⟩ := B4.out.off hbg.off (fun ⟨_, h⟩ => h.elim)); (obtain ⟨lg2, cg2, fg2⟩ := BR.out.off hbg.off (fun ⟨_, h⟩ => h.elim)); (obtain ⟨lg3, cg3, fg3⟩ := BW.out.off hbg.off (fun ⟨_, h⟩ => h.elim)); clear hbg hdg; first | (go_simp; done) | (go_simp; with_reducible rfl))); simp only [Act.put, List.setIfInBounds_toArray, List.set_cons_zero, List.set_cons_succ])
    refine Four.Grow.call (f := ?_) (args := ?_) rfl (fun wg => ?_) (fun wg hbg hdg => ?_) ?_
    rotate_left 2
    focus (first | (go_simp; done) | (go_simp; refine And.intro ?_ ?_ <;> with_reducible rfl) | (go_simp; with_reducible rfl))
    focus (exact (runC (HV.out.below (HW.out.trans ((pre0 hbg).mono HW.out.size))) (HI.out.below (HW.out.trans ((pre0 hbg).mono HW.out.size))) ⟨by decide, by decide⟩).mono (fun e w2 ⟨v, t, he, hp, ht, hb⟩ => ⟨v, he, ⟨t, hp, ht⟩, hb⟩))
    simp only [Act.put, Known.val, List.setIfInBounds_toArray, List.set_cons_zero, List.set_cons_succ]
    iterate 2 (refine Four.Grow.val (v := ?_) rfl rfl (fun wg hbg hdg => ?_) ?_; rotate_left; (focus ((obtain ⟨lg0, cg0, fg0⟩ := B3.out.off hbg.off (fun ⟨_, h⟩ => h.elim)); (obtain ⟨lg1, cg1, fg1⟩ := B4.out.off hbg.off (fun ⟨_, h⟩ => h.elim)); (obtain ⟨lg2, cg2, fg2⟩ := BR.out.off hbg.off (fun ⟨_, h⟩ => h.elim)); (obtain ⟨lg3, cg3, fg3⟩ := BW.out.off hbg.off (fun ⟨_, h⟩ => h.elim)); clear hbg hdg; first | (go_simp; done) | (go_simp; with_reducible rfl))); simp only [Act.put, List.setIfInBounds_toArray, List.set_cons_zero, List.set_cons_succ])
    refine Four.Grow.call (f := ?_) (args := ?_) rfl (fun wg => ?_) (fun wg hbg hdg => ?_) ?_
    rotate_left 2
    focus (first | (go_simp; done) | (go_simp; refine And.intro ?_ ?_ <;> with_reducible rfl) | (go_simp; with_reducible rfl))
    focus (exact (runC (HV.out.below (HW.out.trans ((pre0 hbg).mono HW.out.size))) (HWI.out.below (pre0 hbg)) ⟨by decide, by decide⟩).mono (fun e w2 ⟨v, t, he, hp, ht, hb⟩ => ⟨v, he, ⟨t, hp, ht⟩, hb⟩))
    simp only [Act.put, Known.val, List.setIfInBounds_toArray, List.set_cons_zero, List.set_cons_succ]
    refine Four.Grow.call (f := ?_) (args := ?_) rfl (fun wg => ?_) (fun wg hbg hdg => ?_) ?_
    rotate_left 2
    focus (first | (go_simp; done) | (go_simp; refine And.intro ?_ ?_ <;> with_reducible rfl) | (go_simp; with_reducible rfl))
    focus exact Calls.mono ((same_of_runs HST.out (hdg 4 (by kernel_rfl)) (hdg 7 (by kernel_rfl)))) (fun e w2 ⟨he, hb2⟩ => ⟨_, he, rfl, hb2⟩)
    simp only [Act.put, Known.val, List.setIfInBounds_toArray, List.set_cons_zero, List.set_cons_succ]
    iterate 2 (refine Four.Grow.val (v := ?_) rfl rfl (fun wg hbg hdg => ?_) ?_; rotate_left; (focus ((obtain ⟨lg0, cg0, fg0⟩ := B3.out.off hbg.off (fun ⟨_, h⟩ => h.elim)); (obtain ⟨lg1, cg1, fg1⟩ := B4.out.off hbg.off (fun ⟨_, h⟩ => h.elim)); (obtain ⟨lg2, cg2, fg2⟩ := BR.out.off hbg.off (fun ⟨_, h⟩ => h.elim)); (obtain ⟨lg3, cg3, fg3⟩ := BW.out.off hbg.off (fun ⟨_, h⟩ => h.elim)); clear hbg hdg; first | (go_simp; done) | (go_simp; with_reducible rfl))); simp only [Act.put, List.setIfInBounds_toArray, List.set_cons_zero, List.set_cons_succ])
    intro wg hb hf hap
    clear hap
    clear lB3 cB3 fB3 lB4 cB4 fB4 lBR cBR fBR lBW cBW fBW
    replace B3 := Lib.hid (B3.out.off hb.1 (fun ⟨_, h⟩ => h.elim))
    replace B4 := Lib.hid (B4.out.off hb.1 (fun ⟨_, h⟩ => h.elim))
    replace BR := Lib.hid (BR.out.off hb.1 (fun ⟨_, h⟩ => h.elim))
    replace BW := Lib.hid (BW.out.off hb.1 (fun ⟨_, h⟩ => h.elim))
    replace HW := Lib.hid (HW.out.trans (hb.1.below HW.out.size (fun _ _ ⟨_, h⟩ => h.elim)))
    obtain ⟨lB3, cB3, fB3⟩ := B3.out
    obtain ⟨lB4, cB4, fB4⟩ := B4.out
    obtain ⟨lBR, cBR, fBR⟩ := BR.out
    obtain ⟨lBW, cBW, fBW⟩ := BW.out
    clear hf
    go_wp2
    go_ret
    exact ⟨rfl, HW.out⟩
end Go.Proofs.Ytjmikinbdclfbaa
