/- DomMeets: the law. -/
import Derived.Test.YtefpmjnimnmniaaDR3
namespace Go.Proofs.Ytefpmjnimnmniaa
set_option linter.unusedSimpArgs false
set_option linter.unusedVariables false
open Go.RowKit

theorem meet_eq {f : FuncD} {xs : List Int} {n : Nat} {m : Int} {O : List Nat} (hcl : Closest f xs n) (hO : IsOrder f O) (hup : ClosUp f xs (-1) f.blocks.length m) : m = n := by
  obtain ⟨p1, p2, p3, p4, p5⟩ := hO.facts
  have hn : n < f.blocks.length := p3 n ((p2 n).2 hcl.1)
  have hcn : Cand f xs (-1) n := ⟨hn, by omega, (hcl.2 n).1 (over_refl hcl.1)⟩
  rcases hup with ⟨_, h⟩ | ⟨k, rfl, hk, hall⟩
  · exact absurd hcn (h n hn)
  · rw [over_antisymm hO ((hcl.2 k).2 hk.2.2) (hall n hn hcn)]
set_option maxHeartbeats 12800000 in
set_option maxRecDepth 100000 in
theorem walkMeets {w : World} {v u : Value} (f : FuncD) {xs : List Int} (hv : FuncV w v f) (hu : Ints w u xs) :
    Calls Try.prog 12 #[v, u] w fun e w' => e = .returned (.bool true) ∧ Below w.heap.size w w' := by
  have HV := Lib.hid hv
  obtain ⟨ap, cp, ab, cb, rfl, hp, ha, hc, hB⟩ := hv.form
  obtain ⟨nb, hnb⟩ : ∃ nb, nb = f.blocks.length := ⟨_, rfl⟩
  rw [← hnb] at HV ⊢
  have HNB := Lib.hid hnb
  have hbig := hu.le
  obtain ⟨ua, uc, ub, uo, rfl, huc, hum, -, -⟩ := hu.parts
  obtain ⟨ul, hul⟩ : ∃ ul, ul = xs.length := ⟨_, rfl⟩
  by_cases hlong : 200 < ul
  · have HU : Hid (Ints w (.slice ua 200 uc) (xs.take 200)) := Lib.hid (hu.take (by omega))
    obtain ⟨ys, hys⟩ : ∃ ys, ys = xs.take 200 := ⟨_, rfl⟩
    rw [← hys] at HU
    rw [← hul] at huc hbig ⊢
    clear hp ha hc hB hv hnb hul hu hys
    go_enter Try.func12, Try.ntmps12
    go_upto_region 1 with (fail)
    have B1 : Hid (Box (w.alloc (.cells #[.slice ap f.params.length cp, .int .i64 f.arrays, .int .i64 f.cells, .slice ab nb cb] 30)) (w.heap.size) #[.slice ap f.params.length cp, .int .i64 f.arrays, .int .i64 f.cells, .slice ab nb cb]) := Lib.hid (by simpa using (Box.new w #[.slice ap f.params.length cp, .int .i64 f.arrays, .int .i64 f.cells, .slice ab nb cb] 30))
    have HW : Hid (Below w.heap.size w (w.alloc (.cells #[.slice ap f.params.length cp, .int .i64 f.arrays, .int .i64 f.cells, .slice ab nb cb] 30))) := Lib.hid ((Below.refl _ _).alloc (Nat.le_refl _) _)
    generalize (w.alloc (.cells #[.slice ap f.params.length cp, .int .i64 f.arrays, .int .i64 f.cells, .slice ab nb cb] 30)) = wv at *
    obtain ⟨lB1, cB1, fB1⟩ := B1.out
    go_wp2_with fail
    refine (domMeetOf (HV.out.below HW.out) (HU.out.below HW.out)).mono ?_
    rintro e w2 ⟨m1, g1, rfl, h1, h2, h3, h4, hb⟩
    have H1 := Lib.hid h1
    have H2 := Lib.hid h2
    have H3 := Lib.hid h3
    have H4 := Lib.hid h4
    clear h1 h2 h3 h4
    clear lB1 cB1 fB1
    replace B1 := Lib.hid (B1.out.later hb)
    replace HW := Lib.hid (HW.out.trans (hb.mono HW.out.size))
    clear hb
    obtain ⟨lB1, cB1, fB1⟩ := B1.out
    go_wp2_with fail
    refine (refMeet (HV.out.below HW.out) (HU.out.below HW.out)).mono ?_
    rintro e w3 ⟨m2, g2, rfl, k1, k2, k3, k4, hb⟩
    have hsame : m1 = m2 ∧ g1 = g2 := by
      by_cases hc : checkF f = 0
      · by_cases he : ys = []
        · obtain ⟨rfl, rfl⟩ := H2.out hc he
          obtain ⟨rfl, rfl⟩ := k2 hc he
          exact ⟨rfl, rfl⟩
        · by_cases ha : AllIn f ys
          · obtain ⟨rfl, n, rfl, hcl, O, hO⟩ := H4.out hc he ha
            obtain ⟨rfl, hup⟩ := k4 hc he ha
            exact ⟨(meet_eq hcl hO hup).symm, rfl⟩
          · obtain ⟨rfl, rfl⟩ := H3.out hc he ha
            obtain ⟨rfl, rfl⟩ := k3 hc he ha
            exact ⟨rfl, rfl⟩
      · obtain ⟨rfl, rfl⟩ := H1.out hc
        obtain ⟨rfl, rfl⟩ := k1 hc
        exact ⟨rfl, rfl⟩
    obtain ⟨rfl, rfl⟩ := hsame
    clear k1 k2 k3 k4
    clear lB1 cB1 fB1
    replace B1 := Lib.hid (B1.out.later hb)
    replace HW := Lib.hid (HW.out.trans (hb.mono HW.out.size))
    clear hb
    obtain ⟨lB1, cB1, fB1⟩ := B1.out
    have hq1 : (m1 == m1) = true := by simp
    have hq2 : (g1 == g1) = true := by simp
    go_wp2_with fail
    refine awake4.mono ?_
    rintro e w4 ⟨rfl, hb⟩
    clear lB1 cB1 fB1
    replace B1 := Lib.hid (B1.out.later hb)
    replace HW := Lib.hid (HW.out.trans (hb.mono HW.out.size))
    clear hb
    obtain ⟨lB1, cB1, fB1⟩ := B1.out
    go_wp2
    go_ret
    exact ⟨rfl, HW.out⟩
  · have HU := Lib.hid hu
    rw [← hul] at HU huc hbig ⊢
    clear hp ha hc hB hv hnb hul hu
    go_enter Try.func12, Try.ntmps12
    go_upto_region 1 with (fail)
    have B1 : Hid (Box (w.alloc (.cells #[.slice ap f.params.length cp, .int .i64 f.arrays, .int .i64 f.cells, .slice ab nb cb] 30)) (w.heap.size) #[.slice ap f.params.length cp, .int .i64 f.arrays, .int .i64 f.cells, .slice ab nb cb]) := Lib.hid (by simpa using (Box.new w #[.slice ap f.params.length cp, .int .i64 f.arrays, .int .i64 f.cells, .slice ab nb cb] 30))
    have HW : Hid (Below w.heap.size w (w.alloc (.cells #[.slice ap f.params.length cp, .int .i64 f.arrays, .int .i64 f.cells, .slice ab nb cb] 30))) := Lib.hid ((Below.refl _ _).alloc (Nat.le_refl _) _)
    generalize (w.alloc (.cells #[.slice ap f.params.length cp, .int .i64 f.arrays, .int .i64 f.cells, .slice ab nb cb] 30)) = wv at *
    obtain ⟨lB1, cB1, fB1⟩ := B1.out
    go_wp2_with fail
    refine (domMeetOf (HV.out.below HW.out) (HU.out.below HW.out)).mono ?_
    rintro e w2 ⟨m1, g1, rfl, h1, h2, h3, h4, hb⟩
    have H1 := Lib.hid h1
    have H2 := Lib.hid h2
    have H3 := Lib.hid h3
    have H4 := Lib.hid h4
    clear h1 h2 h3 h4
    clear lB1 cB1 fB1
    replace B1 := Lib.hid (B1.out.later hb)
    replace HW := Lib.hid (HW.out.trans (hb.mono HW.out.size))
    clear hb
    obtain ⟨lB1, cB1, fB1⟩ := B1.out
    go_wp2_with fail
    refine (refMeet (HV.out.below HW.out) (HU.out.below HW.out)).mono ?_
    rintro e w3 ⟨m2, g2, rfl, k1, k2, k3, k4, hb⟩
    have hsame : m1 = m2 ∧ g1 = g2 := by
      by_cases hc : checkF f = 0
      · by_cases he : xs = []
        · obtain ⟨rfl, rfl⟩ := H2.out hc he
          obtain ⟨rfl, rfl⟩ := k2 hc he
          exact ⟨rfl, rfl⟩
        · by_cases ha : AllIn f xs
          · obtain ⟨rfl, n, rfl, hcl, O, hO⟩ := H4.out hc he ha
            obtain ⟨rfl, hup⟩ := k4 hc he ha
            exact ⟨(meet_eq hcl hO hup).symm, rfl⟩
          · obtain ⟨rfl, rfl⟩ := H3.out hc he ha
            obtain ⟨rfl, rfl⟩ := k3 hc he ha
            exact ⟨rfl, rfl⟩
      · obtain ⟨rfl, rfl⟩ := H1.out hc
        obtain ⟨rfl, rfl⟩ := k1 hc
        exact ⟨rfl, rfl⟩
    obtain ⟨rfl, rfl⟩ := hsame
    clear k1 k2 k3 k4
    clear lB1 cB1 fB1
    replace B1 := Lib.hid (B1.out.later hb)
    replace HW := Lib.hid (HW.out.trans (hb.mono HW.out.size))
    clear hb
    obtain ⟨lB1, cB1, fB1⟩ := B1.out
    have hq1 : (m1 == m1) = true := by simp
    have hq2 : (g1 == g1) = true := by simp
    go_wp2_with fail
    refine awake4.mono ?_
    rintro e w4 ⟨rfl, hb⟩
    clear lB1 cB1 fB1
    replace B1 := Lib.hid (B1.out.later hb)
    replace HW := Lib.hid (HW.out.trans (hb.mono HW.out.size))
    clear hb
    obtain ⟨lB1, cB1, fB1⟩ := B1.out
    go_wp2
    go_ret
    exact ⟨rfl, HW.out⟩
end Go.Proofs.Ytefpmjnimnmniaa
