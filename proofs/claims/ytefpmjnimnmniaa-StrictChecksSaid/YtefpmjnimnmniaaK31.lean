/- What the claim needs, part 31. -/
import Derived.Test.YtefpmjnimnmniaaK30
namespace Go.Proofs.Ytefpmjnimnmniaa
set_option linter.unusedSimpArgs false
set_option linter.unusedVariables false
open Go.RowKit
def nothing : FuncD := ⟨[], 0, 0, []⟩
theorem nothing_val {W : World} : FuncV W (.agg #[.slice none 0 0, .int .i64 0, .int .i64 0, .slice none 0 0]) nothing :=
  ⟨_, _, rfl, ints_nil, ⟨by decide, by decide⟩, ⟨by decide, by decide⟩, ⟨[], Row.nil, fun j x hj => by simp [nothing] at hj⟩⟩
theorem nothing_bad : checkF nothing = 2 := by decide
set_option maxHeartbeats 6400000 in
theorem awake5 {w : World} : Calls Try.prog 61 #[] w fun e w' => e = .returned (.bool true) ∧ Below w.heap.size w w' := by
  go_enter Try.func61, Try.ntmps61
  go_wp2_with fail
  have B0 : Hid (Box ((w.alloc (.cells #[.int .i64 1, .int .i64 0, .slice none 0 0, .int .i64 5] 84)).alloc (.cells #[.slice none 0 0, .slice (some ⟨w.heap.size, 0, none⟩) 1 1, .int .i64 3, .int .i64 0, .slice none 0 0, .int .i64 0] 57)) (w.heap.size) #[.int .i64 1, .int .i64 0, .slice none 0 0, .int .i64 5]) := Lib.hid (by simpa using ((Box.new w #[.int .i64 1, .int .i64 0, .slice none 0 0, .int .i64 5] 84).alloc _))
  have B1 : Hid (Box ((w.alloc (.cells #[.int .i64 1, .int .i64 0, .slice none 0 0, .int .i64 5] 84)).alloc (.cells #[.slice none 0 0, .slice (some ⟨w.heap.size, 0, none⟩) 1 1, .int .i64 3, .int .i64 0, .slice none 0 0, .int .i64 0] 57)) (w.heap.size + 1) #[.slice none 0 0, .slice (some ⟨w.heap.size, 0, none⟩) 1 1, .int .i64 3, .int .i64 0, .slice none 0 0, .int .i64 0]) := Lib.hid (by simpa using (Box.new (w.alloc (.cells #[.int .i64 1, .int .i64 0, .slice none 0 0, .int .i64 5] 84)) #[.slice none 0 0, .slice (some ⟨w.heap.size, 0, none⟩) 1 1, .int .i64 3, .int .i64 0, .slice none 0 0, .int .i64 0] 57))
  have HW : Hid (Below w.heap.size w ((w.alloc (.cells #[.int .i64 1, .int .i64 0, .slice none 0 0, .int .i64 5] 84)).alloc (.cells #[.slice none 0 0, .slice (some ⟨w.heap.size, 0, none⟩) 1 1, .int .i64 3, .int .i64 0, .slice none 0 0, .int .i64 0] 57))) := Lib.hid (((Below.refl _ _).alloc (Nat.le_refl _) _).alloc (by simp) _)
  generalize ((w.alloc (.cells #[.int .i64 1, .int .i64 0, .slice none 0 0, .int .i64 5] 84)).alloc (.cells #[.slice none 0 0, .slice (some ⟨w.heap.size, 0, none⟩) 1 1, .int .i64 3, .int .i64 0, .slice none 0 0, .int .i64 0] 57)) = wv at *
  obtain ⟨lB0, cB0, fB0⟩ := B0.out
  obtain ⟨lB1, cB1, fB1⟩ := B1.out
  refine (checkS B0.out B1.out).mono ?_
  rintro e w2 ⟨rfl, hb⟩
  clear lB0 cB0 fB0 lB1 cB1 fB1
  replace B0 := Lib.hid (B0.out.later hb)
  replace B1 := Lib.hid (B1.out.later hb)
  replace HW := Lib.hid (HW.out.trans (hb.mono HW.out.size))
  clear hb
  obtain ⟨lB0, cB0, fB0⟩ := B0.out
  obtain ⟨lB1, cB1, fB1⟩ := B1.out
  clear lB0 cB0 fB0 lB1 cB1 fB1
  go_wp2_with fail
  have hbA1 := (Below.refl w2.heap.size w2).alloc (Nat.le_refl _) (.cells #[.int .i64 1, .int .i64 0, .slice none 0 0, .int .i64 5] 84)
  have hbA := hbA1.trans (((Below.refl _ _).alloc (Nat.le_refl _) (.cells #[.slice none 0 0, .slice (some ⟨w2.heap.size, 0, none⟩) 1 1, .int .i64 3, .int .i64 0, .slice none 0 0, .int .i64 0] 57)).mono hbA1.size)
  have HV2 := simplest_val ((Box.new w2 #[.int .i64 1, .int .i64 0, .slice none 0 0, .int .i64 5] 84).alloc (.cells #[.slice none 0 0, .slice (some ⟨w2.heap.size, 0, none⟩) 1 1, .int .i64 3, .int .i64 0, .slice none 0 0, .int .i64 0] 57)) (Box.new _ _ _)
  simp only [World.size_alloc] at HV2
  refine (defOf (id := 0) HV2).mono ?_
  rintro e w3 ⟨b, at_, g, rfl, -, hr, -, hb⟩
  obtain ⟨rfl, rfl, rfl⟩ := hr simplest_ok.1 (0, 0, 0) (by rw [entF_simplest]; rfl)
  have hb2 := hbA.trans (hb.mono hbA.size)
  replace HW := Lib.hid (HW.out.trans (hb2.mono HW.out.size))
  clear hr hb hbA hbA1 HV2 hb2
  go_wp2_with fail
  refine (defOf (id := 0) nothing_val).mono ?_
  rintro e w4 ⟨b, at_, g, rfl, hr, -, -, hb⟩
  obtain ⟨rfl, rfl, rfl⟩ := hr (by rw [nothing_bad]; decide)
  rw [nothing_bad]
  replace HW := Lib.hid (HW.out.trans (hb.mono HW.out.size))
  clear hr hb
  go_wp2
  go_ret
  exact ⟨rfl, HW.out⟩
end Go.Proofs.Ytefpmjnimnmniaa
namespace Go.Proofs.Ytefpmjnimnmniaa
set_option linter.unusedSimpArgs false
set_option linter.unusedVariables false
open Go.RowKit
set_option maxHeartbeats 3200000 in
theorem eqInts {w : World} {u v : Value} {xs ys : List Int} (hu : Ints w u xs) (hv : Ints w v ys) : Calls Try.prog 125 #[u, v] w fun e w' => e = .returned (.bool (decide (xs = ys))) ∧ Below w.heap.size w w' := by
  obtain ⟨a1, c1, b1, o1, rfl, hc1, hm1, ha1, hx⟩ := hu.parts
  obtain ⟨a2, c2, b2, o2, rfl, hc2, hm2, ha2, hy⟩ := hv.parts
  obtain ⟨n1, hn1⟩ : ∃ n, n = xs.length := ⟨_, rfl⟩
  obtain ⟨n2, hn2⟩ : ∃ n, n = ys.length := ⟨_, rfl⟩
  rw [← hn1] at hc1 ha1 hx ⊢
  rw [← hn2] at hc2 ha2 hy ⊢
  have G1 := Lib.hid hn1
  have G2 := Lib.hid hn2
  have HA1 := Lib.hid ha1
  have HA2 := Lib.hid ha2
  have HX := Lib.hid hx
  have HY := Lib.hid hy
  have HW := Lib.hid (Below.refl w.heap.size w)
  clear hu hv hn1 hn2 ha1 ha2 hx hy
  by_cases hne : n1 = n2
  · subst hne
    go_enter Try.func125, Try.ntmps125
    go_wp2_with fail
    go_loopw [13] (fun i wr => ∃ k : Nat, k ≤ n1 ∧ i = .int .i64 k ∧ (∀ j, j < k → xs.getD j 0 = ys.getD j 0) ∧ Below w.heap.size w wr) (fun i _ => n1 - (intOf i).toNat)
    case atStart => exact ⟨0, Nat.zero_le _, rfl, fun j h => absurd h (Nat.not_lt_zero _), HW.out⟩
    case round =>
      obtain ⟨k, hk, rfl, hs, hW⟩ := hrel
      have HS := Lib.hid hs
      replace HW := Lib.hid hW
      clear hs hW
      generalize wr = w3 at *
      by_cases hlt : k < n1
      · obtain ⟨rfl, hb1⟩ := HA1.out (by omega)
        obtain ⟨rfl, hb2⟩ := HA2.out (by omega)
        have hxk := (HW.out.cell (p := ⟨b1, o1 + k, none⟩) hb1).trans (HX.out k hlt)
        have hyk := (HW.out.cell (p := ⟨b2, o2 + k, none⟩) hb2).trans (HY.out k hlt)
        obtain ⟨p, hp⟩ : ∃ p, p = xs.getD k 0 := ⟨_, rfl⟩
        obtain ⟨q, hq⟩ : ∃ q, q = ys.getD k 0 := ⟨_, rfl⟩
        rw [← hp] at hxk
        rw [← hq] at hyk
        have H3 := Lib.hid hp
        have H4 := Lib.hid hq
        clear hp hq
        cases hpq : (p != q)
        · have HPQ := Lib.hid hpq
          go_upto_region 6 with (fail)
          go_quiet (fail)
          go_wp2
          go_roundw
          case rel =>
            refine ⟨k + 1, hlt, by go_num, ?_, below_drewN HW.out _⟩
            intro j hj
            by_cases e : j = k
            · subst e
              have := HPQ.out
              simp at this
              rw [← H3.out, ← H4.out, this]
            · exact HS.out j (by omega)
          case measure => simp [intOf]; omega
        · have HPQ := Lib.hid hpq
          go_upto_region 6 with (fail)
          go_quiet (fail)
          go_wp2
          go_ret
          exact ⟨ret_bool (decide_eq_false (fun e => by
            have := HPQ.out
            simp at this
            exact this (by rw [H3.out, H4.out, e]))).symm, below_drewN HW.out _⟩
      · have hkn : k = n1 := by omega
        have HEQ : Hid (xs = ys) := Lib.hid (list_eq (by rw [← G1.out, ← G2.out]) (by rw [← G1.out, ← hkn]; exact HS.out))
        clear hkn
        go_wp2
        go_ret
        exact ⟨ret_bool (decide_eq_true HEQ.out).symm, HW.out⟩
  · have hq : ((n1 : Int) != (n2 : Int)) = true := by simp; omega
    have HNE := Lib.hid hne
    clear hne
    go_enter Try.func125, Try.ntmps125
    go_wp2
    go_ret
    exact ⟨ret_bool (decide_eq_false (fun e => HNE.out (by rw [G1.out, G2.out, e]))).symm, HW.out⟩
set_option maxHeartbeats 3200000 in
theorem idxFunI {w : World} {v : Value} {xs : List Int} {k : FuncId} {cap : Array Value} (eg : Enters Try.prog k) (p : Int → Bool) (hv : Ints w v xs)
    (hstep : ∀ (W : World) (x : Int), x ∈ xs → Below w.heap.size w W → Calls Try.prog k (#[.int .i64 x] ++ cap) W fun e W' => e = .returned (.bool (p x)) ∧ Below W.heap.size W W') :
    Calls Try.prog 144 #[v, .func (.func k) #[] cap] w fun e w' => ∃ r : Int, e = .returned (.int .i64 r) ∧ decide (0 ≤ r) = xs.any p ∧ Below w.heap.size w w' := by
  obtain ⟨a1, c1, b1, o1, rfl, hc1, hm1, ha1, hx⟩ := hv.parts
  obtain ⟨n1, hn1⟩ : ∃ n, n = xs.length := ⟨_, rfl⟩
  rw [← hn1] at hc1 ha1 hx ⊢
  have G1 := Lib.hid hn1
  have HA1 := Lib.hid ha1
  have HX := Lib.hid hx
  have HW := Lib.hid (Below.refl w.heap.size w)
  have HST := Lib.hid hstep
  clear hv hn1 ha1 hx hstep
  have eg1 : ∀ (args : Array Value) (w : World), (callFunc k args).run Try.prog w = .ok (.enter k args) w := eg
  go_enter Try.func144, Try.ntmps144
  go_wp2_with fail
  go_loopw [8] (fun i wr => ∃ j : Nat, j ≤ n1 ∧ i = .int .i64 j ∧ (xs.take j).any p = false ∧ Below w.heap.size w wr) (fun i _ => n1 - (intOf i).toNat)
  case atStart => exact ⟨0, Nat.zero_le _, rfl, rfl, HW.out⟩
  case round =>
    obtain ⟨j, hj, rfl, hs, hW⟩ := hrel
    have HS := Lib.hid hs
    replace HW := Lib.hid hW
    clear hs hW
    generalize wr = w3 at *
    by_cases hlt : j < n1
    · obtain ⟨rfl, hb1⟩ := HA1.out (by omega)
      have hxk := (HW.out.cell (p := ⟨b1, o1 + j, none⟩) hb1).trans (HX.out j hlt)
      obtain ⟨x, hx⟩ : ∃ x, x = xs.getD j 0 := ⟨_, rfl⟩
      rw [← hx] at hxk
      have hxm : xs[j]? = some x := by rw [hx]; exact list_at xs j (by have := G1.out; omega)
      have HXM := Lib.hid (List.mem_of_getElem? hxm)
      have HTK := Lib.hid (take_snoc xs j x hxm)
      clear hx hxm
      obtain ⟨c, hc⟩ : ∃ c, c = p x := ⟨_, rfl⟩
      have HC := Lib.hid hc
      have HCT := Lib.hid (HST.out w3 x HXM.out HW.out)
      rw [← hc] at HCT
      clear hc
      cases c
      · go_wp2_with (go_at_fn k; refine HCT.out.mono ?_; rintro e w4 ⟨rfl, hb4⟩; have HB4 := Lib.hid hb4; clear hb4)
        have HW4 := Lib.hid (HW.out.trans (HB4.out.mono HW.out.size))
        have HS2 : Hid ((xs.take (j + 1)).any p = false) := Lib.hid (by rw [HTK.out, List.any_append, HS.out]; simp [← HC.out])
        go_roundw
        case rel => exact ⟨j + 1, hlt, by go_num, HS2.out, HW4.out⟩
        case measure => simp [intOf]; omega
      · go_wp2_with (go_at_fn k; refine HCT.out.mono ?_; rintro e w4 ⟨rfl, hb4⟩; have HB4 := Lib.hid hb4; clear hb4)
        have HW4 := Lib.hid (HW.out.trans (HB4.out.mono HW.out.size))
        have HAN : Hid (xs.any p = true) := Lib.hid (by rw [List.any_eq_true]; exact ⟨x, HXM.out, HC.out.symm⟩)
        go_ret
        exact ⟨j, rfl, by rw [HAN.out]; simp, HW4.out⟩
    · have HAN : Hid (xs.any p = false) := Lib.hid (by have h9 := HS.out; rw [List.take_of_length_le (by have := G1.out; omega)] at h9; exact h9)
      go_wp2
      go_ret
      exact ⟨-1, rfl, by rw [HAN.out]; simp, HW.out⟩
set_option maxHeartbeats 1600000 in
theorem contFunI {w : World} {v : Value} {xs : List Int} {k : FuncId} {cap : Array Value} (eg : Enters Try.prog k) (p : Int → Bool) (hv : Ints w v xs)
    (hstep : ∀ (W : World) (x : Int), x ∈ xs → Below w.heap.size w W → Calls Try.prog k (#[.int .i64 x] ++ cap) W fun e W' => e = .returned (.bool (p x)) ∧ Below W.heap.size W W') :
    Calls Try.prog 128 #[v, .func (.func k) #[] cap] w fun e w' => e = .returned (.bool (xs.any p)) ∧ Below w.heap.size w w' := by
  have HC := Lib.hid (idxFunI eg p hv hstep)
  clear hv hstep
  go_enter Try.func128, Try.ntmps128
  go_wp2_with fail
  refine HC.out.mono ?_
  rintro e w2 ⟨r, rfl, hr, hb⟩
  have HR := Lib.hid hr
  have HB := Lib.hid hb
  clear hr hb
  go_wp2
  go_ret
  exact ⟨ret_bool HR.out, HB.out⟩
end Go.Proofs.Ytefpmjnimnmniaa
namespace Go.Proofs.Ytefpmjnimnmniaa
set_option linter.unusedSimpArgs false
set_option linter.unusedVariables false
open Go.RowKit
def PhiV (W : World) (v : Value) (p : PhiD) : Prop := ∃ s u, v = .agg #[.int .i64 p.id, .int .i64 p.typ, s, u] ∧ Ints W s p.src ∧ Ints W u p.vals
set_option maxHeartbeats 3200000 in
theorem idxFunP {w : World} {v : Value} {ps : List PhiD} {k : FuncId} {cap : Array Value} (eg : Enters Try.prog k) (g : PhiD → Bool) (hv : SliceOf PhiR 4 w v ps)
    (hstep : ∀ (W : World) (p : PhiD) (pv : Value), p ∈ ps → PhiV W pv p → Below w.heap.size w W → Calls Try.prog k (#[pv] ++ cap) W fun e W' => e = .returned (.bool (g p)) ∧ Below W.heap.size W W') :
    Calls Try.prog 141 #[v, .func (.func k) #[] cap] w fun e w' => ∃ r : Int, e = .returned (.int .i64 r) ∧ decide (0 ≤ r) = ps.any g ∧ Below w.heap.size w w' := by
  obtain ⟨a1, c1, b1, o1, rfl, hc1, hm1, hl1, ha1, hx⟩ := phis_parts hv
  obtain ⟨n1, hn1⟩ : ∃ n, n = ps.length := ⟨_, rfl⟩
  rw [← hn1] at hc1 hl1 ha1 ⊢
  have G1 := Lib.hid hn1
  have HA1 := Lib.hid ha1
  have HX := Lib.hid hx
  have HW := Lib.hid (Below.refl w.heap.size w)
  have HST := Lib.hid hstep
  clear hv hn1 ha1 hx hstep
  have eg1 : ∀ (args : Array Value) (w : World), (callFunc k args).run Try.prog w = .ok (.enter k args) w := eg
  go_enter Try.func141, Try.ntmps141
  go_wp2_with fail
  go_loopw [8] (fun i wr => ∃ j : Nat, j ≤ n1 ∧ i = .int .i64 j ∧ (ps.take j).any g = false ∧ Below w.heap.size w wr) (fun i _ => n1 - (intOf i).toNat)
  case atStart => exact ⟨0, Nat.zero_le _, rfl, rfl, HW.out⟩
  case round =>
    obtain ⟨j, hj, rfl, hs, hW⟩ := hrel
    have HS := Lib.hid hs
    replace HW := Lib.hid hW
    clear hs hW
    generalize wr = w3 at *
    by_cases hlt : j < n1
    · obtain ⟨rfl, hb1⟩ := HA1.out (by omega)
      obtain ⟨p, hxm⟩ : ∃ p, ps[j]? = some p := ⟨_, List.getElem?_eq_getElem (by have := G1.out; omega)⟩
      obtain ⟨af, av, cf, cv, hP⟩ := HX.out j p hxm
      obtain ⟨m0, m1, m2, m3, r1, r2, r3, r4⟩ := hP.below HW.out hb1
      have HXM := Lib.hid (List.mem_of_getElem? hxm)
      have HTK := Lib.hid (take_snoc ps j p hxm)
      obtain ⟨c, hc⟩ : ∃ c, c = g p := ⟨_, rfl⟩
      have HC := Lib.hid hc
      have HCT := Lib.hid (HST.out w3 p (.agg #[.int .i64 p.id, .int .i64 p.typ, .slice af p.src.length cf, .slice av p.vals.length cv]) HXM.out ⟨_, _, rfl, r1, r2⟩ HW.out)
      rw [← hc] at HCT
      clear hc hxm hP r1 r2 r3 r4
      cases c
      · go_wp2_with (go_at_fn k; refine HCT.out.mono ?_; rintro e w4 ⟨rfl, hb4⟩; have HB4 := Lib.hid hb4; clear hb4)
        have HW4 := Lib.hid (HW.out.trans (HB4.out.mono HW.out.size))
        have HS2 : Hid ((ps.take (j + 1)).any g = false) := Lib.hid (by rw [HTK.out, List.any_append, HS.out]; simp [← HC.out])
        go_roundw
        case rel => exact ⟨j + 1, hlt, by go_num, HS2.out, HW4.out⟩
        case measure => simp [intOf]; omega
      · go_wp2_with (go_at_fn k; refine HCT.out.mono ?_; rintro e w4 ⟨rfl, hb4⟩; have HB4 := Lib.hid hb4; clear hb4)
        have HW4 := Lib.hid (HW.out.trans (HB4.out.mono HW.out.size))
        have HAN : Hid (ps.any g = true) := Lib.hid (by rw [List.any_eq_true]; exact ⟨p, HXM.out, HC.out.symm⟩)
        go_ret
        exact ⟨j, rfl, by rw [HAN.out]; simp, HW4.out⟩
    · have HAN : Hid (ps.any g = false) := Lib.hid (by have h9 := HS.out; rw [List.take_of_length_le (by have := G1.out; omega)] at h9; exact h9)
      go_wp2
      go_ret
      exact ⟨-1, rfl, by rw [HAN.out]; simp, HW.out⟩
set_option maxHeartbeats 1600000 in
theorem contFunP {w : World} {v : Value} {ps : List PhiD} {k : FuncId} {cap : Array Value} (eg : Enters Try.prog k) (g : PhiD → Bool) (hv : SliceOf PhiR 4 w v ps)
    (hstep : ∀ (W : World) (p : PhiD) (pv : Value), p ∈ ps → PhiV W pv p → Below w.heap.size w W → Calls Try.prog k (#[pv] ++ cap) W fun e W' => e = .returned (.bool (g p)) ∧ Below W.heap.size W W') :
    Calls Try.prog 123 #[v, .func (.func k) #[] cap] w fun e w' => e = .returned (.bool (ps.any g)) ∧ Below w.heap.size w w' := by
  have HC := Lib.hid (idxFunP eg g hv hstep)
  clear hv hstep
  go_enter Try.func123, Try.ntmps123
  go_wp2_with fail
  refine HC.out.mono ?_
  rintro e w2 ⟨r, rfl, hr, hb⟩
  have HR := Lib.hid hr
  have HB := Lib.hid hb
  clear hr hb
  go_wp2
  go_ret
  exact ⟨ret_bool HR.out, HB.out⟩
structure StrM (f : FuncD) (W : World) (bs bt bg lg lcap bm : Nat) (g : Array Value) (pv ov lv A2 : Value) (O : List Nat) (I : Nat → Option Nat) : Prop where
  s : Box W bs #[.pointer (some ⟨bt, 0, none⟩), A2, .map (some bm)]
  t : TreeM f W bt bg lg lcap g pv ov lv O I
  mp : IMap W bm (defM (entF f))
theorem StrM.later {f : FuncD} {W W' : World} {bs bt bg lg lcap bm : Nat} {g : Array Value} {pv ov lv A2 : Value} {O : List Nat} {I : Nat → Option Nat} (h : StrM f W bs bt bg lg lcap bm g pv ov lv A2 O I) (hb : Below W.heap.size W W') : StrM f W' bs bt bg lg lcap bm g pv ov lv A2 O I :=
  ⟨h.s.later hb, h.t.later hb, h.mp.later hb⟩
def AheadP (f : FuncD) (d k b at_ : Int) : Prop := (d = b ∧ k < at_) ∨ (d ≠ b ∧ OverP f d.toNat b.toNat)
set_option maxHeartbeats 6400000 in
set_option maxRecDepth 100000 in
theorem ahead {f : FuncD} {w : World} {bs bt bg lg lcap bm : Nat} {g : Array Value} {pv ov lv A2 : Value} {O : List Nat} {I : Nat → Option Nat} (hS : StrM f w bs bt bg lg lcap bm g pv ov lv A2 O I) (hO : IsOrder f O) (hD : DomI f O I) (hc : checkF f = 0)
    {id d k b at_ : Int} (he : ((entF f).find? fun e => e.1 == id) = some (id, d, k)) (hd : 0 ≤ d ∧ d < (f.blocks.length : Int)) (hb : 0 ≤ b ∧ b < (f.blocks.length : Int)) :
    Calls Try.prog 130 #[.pointer (some ⟨bs, 0, none⟩), .int .i64 id, .int .i64 b, .int .i64 at_] w fun e w' => ∃ r : Bool, e = .returned (.bool r) ∧ (r = true ↔ AheadP f d k b at_) ∧ Below w.heap.size w w' := by
  have HI := Lib.hid hS.mp
  have HG : Hid (mget (defM (entF f)) id = some (.agg #[.int .i64 d, .int .i64 k])) := Lib.hid (by rw [def_get hc, he]; rfl)
  obtain ⟨dn, rfl⟩ : ∃ dn : Nat, d = (dn : Int) := ⟨d.toNat, by omega⟩
  obtain ⟨bn, rfl⟩ : ∃ bn : Nat, b = (bn : Int) := ⟨b.toNat, by omega⟩
  have HOV := Lib.hid (fun (W : World) (hW : Below w.heap.size w W) => treeOver (a := dn) (b := bn) (hS.t.later hW) hO hD (formB_nb (check_fine hc).1).2 (by omega) (by omega))
  have HS := Lib.hid hS
  obtain ⟨l1, c1, f1⟩ := hS.s
  clear hS hO hD hc he hd hb
  by_cases hdb : dn = bn
  · have hq : ((dn : Int) == (bn : Int)) = true := by simp [hdb]
    have HDB := Lib.hid hdb
    clear hdb
    go_enter Try.func130, Try.ntmps130
    go_wp2_with (at_lookup; refine wpList_look0 (q := .i64) (z := .agg #[.int .i64 0, .int .i64 0]) (b := bm) (mm := defM (entF f)) (y := id) rfl _ _ _ rfl Try.underlying142 Try.underlying3 (zeroDef _) rfl HI.out rfl ?_; rw [HG.out]; simp only [Option.getD_some])
    have HW := Lib.hid ((Below.refl w.heap.size w).alloc (Nat.le_refl _) (.cells #[.int .i64 dn, .int .i64 k] 140))
    go_ret
    exact ⟨decide (k < at_), rfl, by rw [decide_eq_true_iff]; unfold AheadP; have := HDB.out; constructor; exact fun h => .inl ⟨by omega, h⟩; exact fun h => h.elim (fun h => h.2) (fun h => absurd (by omega) h.1), HW.out⟩
  · have hq : ((dn : Int) == (bn : Int)) = false := by simp; omega
    have HDB := Lib.hid hdb
    clear hdb
    go_enter Try.func130, Try.ntmps130
    go_upto_region 4 with (at_lookup; refine wpList_look0 (q := .i64) (z := .agg #[.int .i64 0, .int .i64 0]) (b := bm) (mm := defM (entF f)) (y := id) rfl _ _ _ rfl Try.underlying142 Try.underlying3 (zeroDef _) rfl HI.out rfl ?_; rw [HG.out]; simp only [Option.getD_some])
    clear l1 c1 f1
    have HW := Lib.hid ((Below.refl w.heap.size w).alloc (Nat.le_refl _) (.cells #[.int .i64 dn, .int .i64 k] 140))
    have BX := Lib.hid (Box.new w #[.int .i64 dn, .int .i64 k] 140)
    obtain ⟨bx, hbx⟩ : ∃ bx, bx = w.heap.size := ⟨_, rfl⟩
    have e9 : (⟨w.heap.size, 0, none⟩ : Addr) = ⟨bx, 0, none⟩ := by rw [hbx]
    rw [← hbx] at BX
    simp only [← hbx]
    generalize w.alloc _ = w1 at *
    clear hbx e9


    obtain ⟨lBX, cBX, fBX⟩ := BX.out
    refine wp_region_grow 9 (fun kz => match kz with | 7 => .holds (fun u w' => ∃ r : Bool, u = .bool r ∧ (r = true ↔ OverP f dn bn)) | _ => .plain) (by kernel_rfl) (by kernel_rfl) ?_ (fun ν => ?_)
    · (intro k; (try dsimp only); split <;> first | exact True.intro | (intro u w1 w2 hu hb; exact hu))
    simp only [List.take_succ_cons, List.take_zero, List.drop_succ_cons, List.drop_zero]
    iterate 7 (refine Grow.val (v := ?_) rfl rfl (fun wg hbg hdg => ?_) ?_; rotate_left; (focus ((obtain ⟨lg0, cg0, fg0⟩ := BX.out.later hbg); (obtain ⟨xl1, xc1, xf1⟩ := (HS.out.later (HW.out.trans (hbg.mono HW.out.size))).s); clear hbg hdg; first | (go_simp; done) | (go_simp; with_reducible rfl))); simp only [Act.put, List.setIfInBounds_toArray, List.set_cons_zero, List.set_cons_succ])
    refine Grow.call (f := ?_) (args := ?_) rfl (fun wg => ?_) (fun wg hbg hdg => ?_) ?_
    rotate_left 2
    focus (first | (go_simp; done) | (go_simp; refine And.intro ?_ ?_ <;> with_reducible rfl) | (go_simp; with_reducible rfl))
    focus exact ((HOV.out wg (HW.out.trans (hbg.mono HW.out.size))).mono (fun e w2 ⟨r, he, hr, hw⟩ => ⟨_, he, ⟨r, rfl, hr⟩, hw ▸ Below.refl _ _⟩))
    simp only [Act.put, Known.val, List.setIfInBounds_toArray, List.set_cons_zero, List.set_cons_succ]
    refine Grow.val (v := ?_) rfl rfl (fun wg hbg hdg => ?_) ?_
    rotate_left
    focus ((obtain ⟨lg0, cg0, fg0⟩ := BX.out.later hbg); (obtain ⟨xl1, xc1, xf1⟩ := (HS.out.later (HW.out.trans (hbg.mono HW.out.size))).s); clear hbg hdg; first | (go_simp; done) | (go_simp; with_reducible rfl))
    simp only [Act.put, List.setIfInBounds_toArray, List.set_cons_zero, List.set_cons_succ]
    intro wg hb hf hap
    clear hap
    clear lBX cBX fBX
    replace BX := Lib.hid (BX.out.later hb)
    replace HW := Lib.hid (HW.out.trans (hb.mono HW.out.size))
    clear hb
    obtain ⟨lBX, cBX, fBX⟩ := BX.out
    simp only [Nat.zero_add, Nat.reduceAdd]
    have hS : ∃ r : Bool, ν 7 = .bool r ∧ (r = true ↔ OverP f dn bn) := hf 7 (by omega)
    obtain ⟨r, hr1, hr2⟩ := hS
    simp only [hr1]
    have HR : Hid (r = true ↔ AheadP f dn k bn at_) := Lib.hid (by
      unfold AheadP
      rw [hr2]
      have := HDB.out
      exact ⟨fun h => .inr ⟨by omega, by simpa using h⟩, fun h => h.elim (fun h => absurd h.1 (by omega)) (fun h => by simpa using h.2)⟩)
    clear hf hr1 hr2
    go_wp2
    go_ret
    exact ⟨r, rfl, HR.out, HW.out⟩
end Go.Proofs.Ytefpmjnimnmniaa
namespace Go.Proofs.Ytefpmjnimnmniaa
set_option linter.unusedSimpArgs false
set_option linter.unusedVariables false
open Go.RowKit
def phiFits (xs : List Int) (p : PhiD) : Bool := decide (p.src.length = xs.length) && xs.all fun t => p.src.contains t
set_option maxHeartbeats 12800000 in
set_option maxRecDepth 100000 in
theorem refPhis {w : World} {pv A1 A2 A3 A4 A5 u : Value} {ps : List PhiD} {xs : List Int} (hp : SliceOf PhiR 4 w pv ps) (hu : Ints w u xs) :
    Calls Try.prog 90 #[.agg #[pv, A1, A2, A3, A4, A5], u] w fun e w' => e = .returned (.bool (ps.all (phiFits xs))) ∧ Below w.heap.size w w' := by
  obtain ⟨a1, c1, b1, o1, rfl, hc1, hm1, hl1, ha1, hx⟩ := phis_parts hp
  have hul16 := hu.le
  obtain ⟨ua, uc, ub, uo, rfl, huc, hum, hua, hux⟩ := hu.parts
  obtain ⟨pl, hpl⟩ : ∃ n, n = ps.length := ⟨_, rfl⟩
  obtain ⟨ul, hul⟩ : ∃ n, n = xs.length := ⟨_, rfl⟩
  rw [← hpl] at hc1 hl1 ha1 ⊢
  rw [← hul] at huc hua hux hul16 ⊢
  have HPL := Lib.hid hpl
  have HUL := Lib.hid hul
  have HA1 := Lib.hid ha1
  have HX := Lib.hid hx
  have HUA := Lib.hid hua
  have HUX := Lib.hid hux
  clear hp hu hpl hul ha1 hx hua hux
  go_enter Try.func90, Try.ntmps90
  go_upto_region 1 with (fail)
  have B1 : Hid (Box (w.alloc (.cells #[.slice a1 pl c1, A1, A2, A3, A4, A5] 57)) (w.heap.size) #[.slice a1 pl c1, A1, A2, A3, A4, A5]) := Lib.hid (by simpa using (Box.new w #[.slice a1 pl c1, A1, A2, A3, A4, A5] 57))
  have HW : Hid (Below w.heap.size w (w.alloc (.cells #[.slice a1 pl c1, A1, A2, A3, A4, A5] 57))) := Lib.hid ((Below.refl _ _).alloc (Nat.le_refl _) _)
  generalize (w.alloc (.cells #[.slice a1 pl c1, A1, A2, A3, A4, A5] 57)) = wv at *
  obtain ⟨lB1, cB1, fB1⟩ := B1.out
  go_wp2_with fail
  go_loopw [5] (fun i wr => ∃ j : Nat, j ≤ pl ∧ i = .int .i64 j ∧ (ps.take j).all (phiFits xs) = true ∧ Below w.heap.size w wr ∧ Box wr w.heap.size #[.slice a1 pl c1, A1, A2, A3, A4, A5]) (fun i _ => pl - (intOf i).toNat)
  case atStart => exact ⟨0, Nat.zero_le _, rfl, rfl, HW.out, B1.out⟩
  case round =>
    obtain ⟨j, hj, rfl, hs, hW, h1⟩ := hrel
    clear lB1 cB1 fB1
    have HS := Lib.hid hs
    replace HW := Lib.hid hW
    replace B1 := Lib.hid h1
    clear hs hW h1
    generalize wr = w3 at *

    obtain ⟨lB1, cB1, fB1⟩ := B1.out
    by_cases hlt : j < pl
    · obtain ⟨rfl, hb1⟩ := HA1.out (by omega)

      obtain ⟨p, hxm⟩ : ∃ p, ps[j]? = some p := ⟨_, List.getElem?_eq_getElem (by have := HPL.out; omega)⟩
      obtain ⟨af, av, cf, cv, hP⟩ := HX.out j p hxm
      obtain ⟨m0, m1, m2, m3, r1, r2, r3, r4⟩ := hP.below HW.out hb1
      have HXM := Lib.hid (List.mem_of_getElem? hxm)
      have HTK := Lib.hid (take_snoc ps j p hxm)
      have HC2 := Lib.hid hP.c2
      have HSRC := Lib.hid hP.src
      obtain ⟨sl, hsl⟩ : ∃ sl, sl = p.src.length := ⟨_, rfl⟩
      rw [← hsl] at HC2 HSRC m2
      have HSL := Lib.hid hsl
      have hsl16 : sl ≤ 17592186044416 := by rw [hsl]; exact hP.src.le
      clear hxm hP r1 r2 r3 r4 m0 m1 m3 hsl
      by_cases hlen : sl = ul
      · have hq : ((sl : Int) != (ul : Int)) = false := by simp [hlen]
        have HLEN : Hid (p.src.length = xs.length) := Lib.hid (by rw [← HSL.out, ← HUL.out]; exact hlen)
        clear hlen
        go_wp2_with fail
        clear m2
        go_loopw [6] (fun i wr => ∃ t : Nat, t ≤ ul ∧ i = .int .i64 t ∧ ((xs.take t).all fun t => p.src.contains t) = true ∧ Below w.heap.size w wr ∧ Box wr w.heap.size #[.slice (some ⟨b1, o1, none⟩) pl c1, A1, A2, A3, A4, A5]) (fun i _ => ul - (intOf i).toNat)
        case atStart => exact ⟨0, Nat.zero_le _, rfl, rfl, HW.out, B1.out⟩
        case round =>
          obtain ⟨t, ht, rfl, hs, hW, h1⟩ := hrel
          clear lB1 cB1 fB1
          have HS2 := Lib.hid hs
          replace HW := Lib.hid hW
          replace B1 := Lib.hid h1
          clear hs hW h1
          generalize wr = w5 at *

          obtain ⟨lB1, cB1, fB1⟩ := B1.out
          by_cases hltt : t < ul
          · obtain ⟨rfl, hub⟩ := HUA.out (by omega)
            obtain ⟨y, hy⟩ : ∃ y, y = xs.getD t 0 := ⟨_, rfl⟩
            have CU := Lib.hid ((HW.out.cell (p := ⟨ub, uo + t, none⟩) hub).trans (HUX.out t hltt))
            rw [← hy] at CU
            have hym : xs[t]? = some y := by rw [hy]; exact list_at xs t (by have := HUL.out; omega)
            have HTK2 := Lib.hid (take_snoc xs t y hym)
            have HYM := Lib.hid (List.mem_of_getElem? hym)
            have CUl := World.block_lt_of_cell? w5 _ CU.out
            have CS := Lib.hid ((HW.out.cell (p := ⟨b1, o1 + j * 4 + 2, none⟩) hb1).trans HC2.out)
            have CSl := World.block_lt_of_cell? w5 _ CS.out
            obtain ⟨c, hc⟩ : ∃ c, c = p.src.contains y := ⟨_, rfl⟩
            have HC := Lib.hid hc
            have HCT : Hid (∀ wg, Below w5.heap.size w5 wg → Calls Try.prog 41 #[.slice af sl cf, .int .i64 y] wg fun e w' => e = .returned (.bool c) ∧ Below wg.heap.size wg w') := Lib.hid (fun wg hbg => by
              rw [hc]
              exact (refHas (x := y) (HSRC.out.below (HW.out.trans (hbg.mono HW.out.size)))).mono (fun e w2 ⟨h1, h2⟩ => ⟨h1, h2 ▸ Below.refl _ _⟩))
            clear hy hym hc
            go_upto_region 9 with (fail)
            refine wp_region_grow 12 (fun kz => match kz with | 10 => .const (.bool c) | _ => .plain) (by kernel_rfl) (by kernel_rfl) ?_ (fun ν => ?_)
            · (intro k; (try dsimp only); split <;> first | exact True.intro | (intro u w1 w2 hu hb; exact hu.below hb))
            simp only [List.take_succ_cons, List.take_zero, List.drop_succ_cons, List.drop_zero]
            iterate 10 (refine Grow.val (v := ?_) rfl rfl (fun wg hbg hdg => ?_) ?_; rotate_left; (focus ((obtain ⟨lg0, cg0, fg0⟩ := B1.out.later hbg); (have hcl := (hbg.cell (p := ⟨ub, uo + t, none⟩) CUl).trans CU.out; have hcr := (hbg.cell (p := ⟨b1, o1 + j * 4 + 2, none⟩) CSl).trans CS.out); clear hbg hdg; first | (go_simp; done) | (go_simp; with_reducible rfl))); simp only [Act.put, List.setIfInBounds_toArray, List.set_cons_zero, List.set_cons_succ])
            refine Grow.call (f := ?_) (args := ?_) rfl (fun wg => ?_) (fun wg hbg hdg => ?_) ?_
            rotate_left 2
            focus (first | (go_simp; done) | (go_simp; refine And.intro ?_ ?_ <;> with_reducible rfl) | (go_simp; with_reducible rfl))
            focus exact Calls.mono (HCT.out wg hbg) (fun e w2 ⟨he, hb2⟩ => ⟨_, he, rfl, hb2⟩)
            simp only [Act.put, Known.val, List.setIfInBounds_toArray, List.set_cons_zero, List.set_cons_succ]
            refine Grow.val (v := ?_) rfl rfl (fun wg hbg hdg => ?_) ?_
            rotate_left
            focus ((obtain ⟨lg0, cg0, fg0⟩ := B1.out.later hbg); (have hcl := (hbg.cell (p := ⟨ub, uo + t, none⟩) CUl).trans CU.out; have hcr := (hbg.cell (p := ⟨b1, o1 + j * 4 + 2, none⟩) CSl).trans CS.out); clear hbg hdg; first | (go_simp; done) | (go_simp; with_reducible rfl))
            simp only [Act.put, List.setIfInBounds_toArray, List.set_cons_zero, List.set_cons_succ]
            intro wg hb hf hap
            clear hap
            clear lB1 cB1 fB1
            replace B1 := Lib.hid (B1.out.later hb)
            replace HW := Lib.hid (HW.out.trans (hb.mono HW.out.size))
            clear hb
            obtain ⟨lB1, cB1, fB1⟩ := B1.out
            clear hf
            cases c
            · have HNO : Hid (ps.all (phiFits xs) = false) := Lib.hid (by
                rw [List.all_eq_false]
                refine ⟨p, HXM.out, ?_⟩
                unfold phiFits
                rw [Bool.and_eq_true, not_and]
                intro _ h
                rw [List.all_eq_true] at h
                have := h y HYM.out
                rw [← HC.out] at this
                cases this)
              go_wp2
              go_ret
              exact ⟨ret_bool HNO.out.symm, HW.out⟩
            · have HNX : Hid (((xs.take (t + 1)).all fun t => p.src.contains t) = true) := Lib.hid (by rw [HTK2.out, List.all_append, HS2.out]; simpa using HC.out.symm)
              go_wp2
              go_roundw
              case rel => exact ⟨t + 1, hltt, by go_num, HNX.out, HW.out, B1.out⟩
              case measure => simp [intOf]; omega
          · have HNX : Hid ((ps.take (j + 1)).all (phiFits xs) = true) := Lib.hid (by
              rw [HTK.out, List.all_append, HS.out]
              have h9 := HS2.out
              rw [List.take_of_length_le (by have := HUL.out; omega)] at h9
              simp only [List.all_cons, List.all_nil, Bool.and_true, Bool.true_and]
              unfold phiFits
              rw [h9, decide_eq_true HLEN.out]; rfl)
            go_wp2
            go_roundw
            case rel => exact ⟨j + 1, hlt, by go_num, HNX.out, HW.out, B1.out⟩
            case measure => simp [intOf]; omega
      · have hq : ((sl : Int) != (ul : Int)) = true := by simp; omega
        have HNO : Hid (ps.all (phiFits xs) = false) := Lib.hid (by
          rw [List.all_eq_false]
          refine ⟨p, HXM.out, ?_⟩
          unfold phiFits
          rw [decide_eq_false (by rw [← HSL.out, ← HUL.out]; exact hlen)]
          simp)
        clear hlen
        go_wp2
        go_ret
        exact ⟨ret_bool HNO.out.symm, HW.out⟩
    · have HYES : Hid (ps.all (phiFits xs) = true) := Lib.hid (by have h9 := HS.out; rw [List.take_of_length_le (by have := HPL.out; omega)] at h9; exact h9)
      go_wp2
      go_ret
      exact ⟨ret_bool HYES.out.symm, HW.out⟩
end Go.Proofs.Ytefpmjnimnmniaa
