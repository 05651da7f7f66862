/- DomMet: the law. -/
import Derived.Test.YtefpmjnimnmniaaDB
namespace Go.Proofs.Ytefpmjnimnmniaa
set_option linter.unusedSimpArgs false
set_option linter.unusedVariables false
open Go.RowKit

theorem ints_of_box2 {W : World} {b : Nat} {x y : Int} (h : Box W b #[.int .i64 x, .int .i64 y]) (hx : In64 x) (hy : In64 y) : Ints W (.slice (some ⟨b, 0, none⟩) 2 2) [x, y] :=
  ⟨Row.of_box (n := 2) (size := 1) h rfl (by omega), by intro z hz; simp at hz; rcases hz with rfl | rfl <;> assumption⟩
theorem ints_of_box3 {W : World} {b : Nat} {x y z : Int} (h : Box W b #[.int .i64 x, .int .i64 y, .int .i64 z]) (hx : In64 x) (hy : In64 y) (hz : In64 z) : Ints W (.slice (some ⟨b, 0, none⟩) 3 3) [x, y, z] :=
  ⟨Row.of_box (n := 3) (size := 1) h rfl (by omega), by intro u hu; simp at hu; rcases hu with rfl | rfl | rfl <;> assumption⟩
theorem in64_nat {n : Nat} (h : n ≤ 1000000) : In64 (n : Int) := ⟨by omega, by omega⟩
set_option maxHeartbeats 12800000 in
set_option maxRecDepth 100000 in
theorem walkMet {w : World} {v : Value} (f : FuncD) {a b c : Int} (hv : FuncV w v f) (ha : 0 ≤ a ∧ a ≤ 65535) (hb : 0 ≤ b ∧ b ≤ 65535) (hc : 0 ≤ c ∧ c ≤ 65535) :
    Calls Try.prog 13 #[v, .int .u16 a, .int .u16 b, .int .u16 c] w fun e w' => e = .returned (.bool true) ∧ Below w.heap.size w w' := by
  have HV := Lib.hid hv
  obtain ⟨ap, cp, ab, cb, rfl, hp, -, -, hB⟩ := hv.form
  have hnbig : f.blocks.length ≤ 17592186044416 := by
    obtain ⟨cs, h1, _⟩ := hB
    exact h1.big
  obtain ⟨nb, hnb⟩ : ∃ nb, nb = f.blocks.length := ⟨_, rfl⟩
  rw [← hnb] at HV hnbig ⊢
  have HNB := Lib.hid hnb
  obtain ⟨an, rfl⟩ : ∃ an : Nat, a = (an : Int) := ⟨a.toNat, by omega⟩
  obtain ⟨bn, rfl⟩ : ∃ bn : Nat, b = (bn : Int) := ⟨b.toNat, by omega⟩
  obtain ⟨cn, rfl⟩ : ∃ cn : Nat, c = (cn : Int) := ⟨c.toNat, by omega⟩
  clear hp hB hv hnb
  go_enter Try.func13, Try.ntmps13
  go_upto_region 1 with (fail)
  have B1 : Hid (Box (w.alloc (.cells #[.slice ap f.params.length cp, .int .i64 f.arrays, .int .i64 f.cells, .slice ab nb cb] 30)) (w.heap.size) #[.slice ap f.params.length cp, .int .i64 f.arrays, .int .i64 f.cells, .slice ab nb cb]) := Lib.hid (by simpa using (Box.new w #[.slice ap f.params.length cp, .int .i64 f.arrays, .int .i64 f.cells, .slice ab nb cb] 30))
  have HW : Hid (Below w.heap.size w (w.alloc (.cells #[.slice ap f.params.length cp, .int .i64 f.arrays, .int .i64 f.cells, .slice ab nb cb] 30))) := Lib.hid ((Below.refl _ _).alloc (Nat.le_refl _) _)
  generalize (w.alloc (.cells #[.slice ap f.params.length cp, .int .i64 f.arrays, .int .i64 f.cells, .slice ab nb cb] 30)) = wv at *
  obtain ⟨lB1, cB1, fB1⟩ := B1.out
  go_wp2_with fail
  refine awake4.mono ?_
  rintro e w2 ⟨rfl, hb2⟩
  clear lB1 cB1 fB1
  replace B1 := Lib.hid (B1.out.later hb2)
  replace HW := Lib.hid (HW.out.trans (hb2.mono HW.out.size))
  clear hb2
  obtain ⟨lB1, cB1, fB1⟩ := B1.out
  by_cases hgo : nb = 0 ∨ 200 < nb
  · by_cases h0 : nb = 0
    · have hq : ((nb : Int) == 0) = true := by simp [h0]
      have h2 : ¬ (200 : Int) < (nb : Int) := by omega
      clear hgo h0
      go_wp2_with fail
      refine awake4.mono ?_
      rintro e w3 ⟨rfl, hb3⟩
      clear lB1 cB1 fB1
      replace B1 := Lib.hid (B1.out.later hb3)
      replace HW := Lib.hid (HW.out.trans (hb3.mono HW.out.size))
      clear hb3
      obtain ⟨lB1, cB1, fB1⟩ := B1.out
      go_wp2
      go_ret
      exact ⟨rfl, HW.out⟩
    · have hq : ((nb : Int) == 0) = false := by simp; exact h0
      have h2 : (200 : Int) < (nb : Int) := by omega
      clear hgo h0
      go_wp2_with fail
      refine awake4.mono ?_
      rintro e w3 ⟨rfl, hb3⟩
      clear lB1 cB1 fB1
      replace B1 := Lib.hid (B1.out.later hb3)
      replace HW := Lib.hid (HW.out.trans (hb3.mono HW.out.size))
      clear hb3
      obtain ⟨lB1, cB1, fB1⟩ := B1.out
      go_wp2
      go_ret
      exact ⟨rfl, HW.out⟩
  · have hn0 : 0 < nb := by omega
    have hn200 : nb ≤ 200 := by omega
    have hq : ((nb : Int) == 0) = false := by simp; omega
    have h2 : ¬ (200 : Int) < (nb : Int) := by omega
    obtain ⟨x, hx⟩ : ∃ x, x = an % nb := ⟨_, rfl⟩
    obtain ⟨y, hy⟩ : ∃ y, y = bn % nb := ⟨_, rfl⟩
    obtain ⟨z, hz⟩ : ∃ z, z = cn % nb := ⟨_, rfl⟩
    have hxl : x < nb := by rw [hx]; exact Nat.mod_lt _ hn0
    have hyl : y < nb := by rw [hy]; exact Nat.mod_lt _ hn0
    have hzl : z < nb := by rw [hz]; exact Nat.mod_lt _ hn0
    have rx : Int.tmod (an : Int) (nb : Int) = (x : Int) := by rw [hx]; rfl
    have ry : Int.tmod (bn : Int) (nb : Int) = (y : Int) := by rw [hy]; rfl
    have rz : Int.tmod (cn : Int) (nb : Int) = (z : Int) := by rw [hz]; rfl
    clear hgo hx hy hz
    go_upto_region 4 with (fail)
    go_quiet (fail)
    go_wp2_with fail
    have hA : ∀ n, Below w.heap.size w ((w2.drewN n).alloc (.cells #[.int .i64 x, .int .i64 y] 3)) := fun n => (below_drewN HW.out n).alloc HW.out.size _
    refine (domMeetOf (HV.out.below (hA _)) (ints_of_box2 (Box.new _ _ _) (in64_nat (by omega)) (in64_nat (by omega)))).mono ?_
    rintro e w3 ⟨m, g, rfl, hm1, -, hm3, hm4, hb3⟩
    have hb1 := ((B1.out.drewN _).alloc _).later hb3
    replace HW := Lib.hid ((hA _).trans (hb3.mono (hA _).size))
    clear lB1 cB1 fB1
    replace B1 := Lib.hid hb1
    clear hA hb3 hb1

    obtain ⟨lB1, cB1, fB1⟩ := B1.out
    by_cases hc0 : checkF f = 0
    · have HC0 := Lib.hid hc0
      by_cases hal : AllIn f [(x : Int), (y : Int)]
      · obtain ⟨rfl, mn, rfl, hcl, O, hO⟩ := hm4 hc0 (by simp) hal
        have HO := Lib.hid hO
        have HMW := Lib.hid hcl.1
        have HCL : Hid (∀ c, OverP f c mn ↔ OverP f c x ∧ OverP f c y) := Lib.hid (fun c => by rw [hcl.2 c]; simp)
        have HXW : Hid (Way (toB f) (-1) x ∧ Way (toB f) (-1) y) := Lib.hid (by
          have h1 := (hal (x : Int) (by simp)).2.2
          have h2 := (hal (y : Int) (by simp)).2.2
          rw [Int.toNat_natCast] at h1 h2
          exact ⟨h1, h2⟩)
        have hml : mn < nb := by
          obtain ⟨p1, p2, p3, p4, p5⟩ := hO.facts
          rw [HNB.out]; exact p3 mn ((p2 mn).2 hcl.1)
        clear hc0 hal hm1 hm3 hm4 hcl hO rx ry rz
        go_wp2_with fail
        refine (domDominates (a := (mn : Int)) (b := (x : Int)) (HV.out.below HW.out)).mono ?_
        rintro e w4 ⟨r_, g_, rfl, -, -, hr_, hb⟩
        obtain ⟨hg_, hs_⟩ := hr_ HC0.out ⟨by omega, by omega, by rw [← HNB.out]; omega, by rw [← HNB.out]; omega⟩
        subst hg_
        simp only [Int.toNat_natCast] at hs_
        have R1 := Lib.hid hs_
        clear hr_ hs_
        obtain ⟨v1, hv1⟩ : ∃ x, x = r_ := ⟨_, rfl⟩
        rw [← hv1] at R1 ⊢
        clear hv1
        clear lB1 cB1 fB1
        replace B1 := Lib.hid (B1.out.later hb)
        replace HW := Lib.hid (HW.out.trans (hb.mono HW.out.size))
        clear hb
        obtain ⟨lB1, cB1, fB1⟩ := B1.out
        go_wp2_with fail
        refine (domDominates (a := (mn : Int)) (b := (y : Int)) (HV.out.below HW.out)).mono ?_
        rintro e w5 ⟨r_, g_, rfl, -, -, hr_, hb⟩
        obtain ⟨hg_, hs_⟩ := hr_ HC0.out ⟨by omega, by omega, by rw [← HNB.out]; omega, by rw [← HNB.out]; omega⟩
        subst hg_
        simp only [Int.toNat_natCast] at hs_
        have R2 := Lib.hid hs_
        clear hr_ hs_
        obtain ⟨v2, hv2⟩ : ∃ x, x = r_ := ⟨_, rfl⟩
        rw [← hv2] at R2 ⊢
        clear hv2
        clear lB1 cB1 fB1
        replace B1 := Lib.hid (B1.out.later hb)
        replace HW := Lib.hid (HW.out.trans (hb.mono HW.out.size))
        clear hb
        obtain ⟨lB1, cB1, fB1⟩ := B1.out
        go_wp2_with fail
        refine (domDominates (a := (z : Int)) (b := (x : Int)) (HV.out.below HW.out)).mono ?_
        rintro e w6 ⟨r_, g_, rfl, -, -, hr_, hb⟩
        obtain ⟨hg_, hs_⟩ := hr_ HC0.out ⟨by omega, by omega, by rw [← HNB.out]; omega, by rw [← HNB.out]; omega⟩
        subst hg_
        simp only [Int.toNat_natCast] at hs_
        have R3 := Lib.hid hs_
        clear hr_ hs_
        obtain ⟨v3, hv3⟩ : ∃ x, x = r_ := ⟨_, rfl⟩
        rw [← hv3] at R3 ⊢
        clear hv3
        clear lB1 cB1 fB1
        replace B1 := Lib.hid (B1.out.later hb)
        replace HW := Lib.hid (HW.out.trans (hb.mono HW.out.size))
        clear hb
        obtain ⟨lB1, cB1, fB1⟩ := B1.out
        go_wp2_with fail
        refine (domDominates (a := (z : Int)) (b := (y : Int)) (HV.out.below HW.out)).mono ?_
        rintro e w7 ⟨r_, g_, rfl, -, -, hr_, hb⟩
        obtain ⟨hg_, hs_⟩ := hr_ HC0.out ⟨by omega, by omega, by rw [← HNB.out]; omega, by rw [← HNB.out]; omega⟩
        subst hg_
        simp only [Int.toNat_natCast] at hs_
        have R4 := Lib.hid hs_
        clear hr_ hs_
        obtain ⟨v4, hv4⟩ : ∃ x, x = r_ := ⟨_, rfl⟩
        rw [← hv4] at R4 ⊢
        clear hv4
        clear lB1 cB1 fB1
        replace B1 := Lib.hid (B1.out.later hb)
        replace HW := Lib.hid (HW.out.trans (hb.mono HW.out.size))
        clear hb
        obtain ⟨lB1, cB1, fB1⟩ := B1.out
        go_wp2_with fail
        refine (domDominates (a := (z : Int)) (b := (mn : Int)) (HV.out.below HW.out)).mono ?_
        rintro e w8 ⟨r_, g_, rfl, -, -, hr_, hb⟩
        obtain ⟨hg_, hs_⟩ := hr_ HC0.out ⟨by omega, by omega, by rw [← HNB.out]; omega, by rw [← HNB.out]; omega⟩
        subst hg_
        simp only [Int.toNat_natCast] at hs_
        have R5 := Lib.hid hs_
        clear hr_ hs_
        obtain ⟨v5, hv5⟩ : ∃ x, x = r_ := ⟨_, rfl⟩
        rw [← hv5] at R5 ⊢
        clear hv5
        clear lB1 cB1 fB1
        replace B1 := Lib.hid (B1.out.later hb)
        replace HW := Lib.hid (HW.out.trans (hb.mono HW.out.size))
        clear hb
        obtain ⟨lB1, cB1, fB1⟩ := B1.out
        go_wp2_with fail
        have hA : Below w.heap.size w (w8.alloc (.cells #[.int .i64 y, .int .i64 x, .int .i64 mn] 3)) := HW.out.alloc HW.out.size _
        refine (domMeetOf (HV.out.below hA) (ints_of_box3 (Box.new _ _ _) (in64_nat (by omega)) (in64_nat (by omega)) (in64_nat (by omega)))).mono ?_
        rintro e w9 ⟨m2, g2, rfl, -, -, -, hm4, hb9⟩
        obtain ⟨rfl, mn2, rfl, hcl2, -⟩ := hm4 HC0.out (by simp) (by
          intro u hu
          simp at hu
          rcases hu with rfl | rfl | rfl
          · exact ⟨by omega, by rw [← HNB.out]; omega, by rw [Int.toNat_natCast]; exact HXW.out.2⟩
          · exact ⟨by omega, by rw [← HNB.out]; omega, by rw [Int.toNat_natCast]; exact HXW.out.1⟩
          · exact ⟨by omega, by rw [← HNB.out]; omega, by rw [Int.toNat_natCast]; exact HMW.out⟩)
        have e1 : mn2 = mn := by
          have h1 : ∀ c, OverP f c mn2 ↔ OverP f c y ∧ OverP f c x ∧ OverP f c mn := fun c => by rw [hcl2.2 c]; simp
          have h2 := (h1 mn2).1 (over_refl hcl2.1)
          have h3 := (h1 mn).2 ⟨((HCL.out mn).1 (over_refl HMW.out)).2, ((HCL.out mn).1 (over_refl HMW.out)).1, over_refl HMW.out⟩
          exact over_antisymm HO.out h2.2.2 h3
        subst e1
        obtain rfl : v1 = true := R1.out.2 ((HCL.out mn2).1 (over_refl HMW.out)).1
        obtain rfl : v2 = true := R2.out.2 ((HCL.out mn2).1 (over_refl HMW.out)).2
        have e5 : v5 = (v3 && v4) := by
          rw [Bool.eq_iff_iff, Bool.and_eq_true, R5.out, R3.out, R4.out]
          exact HCL.out z
        subst e5
        have HWE := Lib.hid (hA.trans (hb9.mono hA.size))
        have hqq : ((mn2 : Int) == (mn2 : Int)) = true := by simp
        have hvv : ((v3 && v4) == (v3 && v4)) = true := by simp
        clear hm4 hcl2 hA hb9
        cases v3 <;> cases v4
        all_goals
          go_wp2
          go_ret
          exact ⟨rfl, HWE.out⟩
      · obtain ⟨rfl, rfl⟩ := hm3 hc0 (by simp) hal
        clear hc0 hal hm1 hm3 hm4
        go_wp2
        go_ret
        exact ⟨rfl, HW.out⟩
    · obtain ⟨rfl, rfl⟩ := hm1 hc0
      have hc1 : (checkF f != 0) = true := by simpa using hc0
      clear hc0 hm1 hm3 hm4
      go_wp2
      go_ret
      exact ⟨rfl, HW.out⟩
end Go.Proofs.Ytefpmjnimnmniaa
