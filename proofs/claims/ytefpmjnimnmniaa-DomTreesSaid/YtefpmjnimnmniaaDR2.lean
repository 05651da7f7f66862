/- The reference's Closest. -/
import Derived.Test.YtefpmjnimnmniaaDR1
namespace Go.Proofs.Ytefpmjnimnmniaa
set_option linter.unusedSimpArgs false
set_option linter.unusedVariables false
open Go.RowKit

/-- One that dominates all. -/
def Cand (f : FuncD) (xs : List Int) (gone : Int) (a : Nat) : Prop := a < f.blocks.length ∧ (a : Int) ≠ gone ∧ ∀ x ∈ xs, OverP f a x.toNat
/-- The closest of those below k. -/
def ClosUp (f : FuncD) (xs : List Int) (gone : Int) (k : Nat) (r : Int) : Prop :=
  (r = -1 ∧ ∀ a, a < k → ¬ Cand f xs gone a) ∨ ∃ m : Nat, r = m ∧ Cand f xs gone m ∧ ∀ a, a < k → Cand f xs gone a → OverP f a m
theorem ClosUp.skip {f : FuncD} {xs : List Int} {gone r : Int} {k : Nat} (h : ClosUp f xs gone k r) (hc : ¬ Cand f xs gone k) : ClosUp f xs gone (k + 1) r := by
  rcases h with ⟨h1, h2⟩ | ⟨m, h1, h2, h3⟩
  · exact .inl ⟨h1, fun a ha hca => by
      by_cases e : a = k
      · subst e; exact hc hca
      · exact h2 a (by omega) hca⟩
  · exact .inr ⟨m, h1, h2, fun a ha hca => by
      by_cases e : a = k
      · subst e; exact absurd hca hc
      · exact h3 a (by omega) hca⟩
theorem Cand.way {f : FuncD} {xs : List Int} {gone : Int} {k : Nat} (h : Cand f xs gone k) (hne : xs ≠ []) : Way (toB f) (-1) k := by
  cases xs with
  | nil => exact absurd rfl hne
  | cons x r => exact (h.2.2 x (by simp)).1
theorem ClosUp.first {f : FuncD} {xs : List Int} {gone : Int} {k : Nat} (h : ∀ a, a < k → ¬ Cand f xs gone a) (hc : Cand f xs gone k) (hne : xs ≠ []) : ClosUp f xs gone (k + 1) (k : Int) :=
  .inr ⟨k, rfl, hc, fun a ha hca => by
    by_cases e : a = k
    · subst e; exact over_refl (hc.way hne)
    · exact absurd hca (h a (by omega))⟩
theorem ClosUp.nearer {f : FuncD} {xs : List Int} {gone : Int} {k m : Nat} (h : ∀ a, a < k → Cand f xs gone a → OverP f a m) (hc : Cand f xs gone k) (hne : xs ≠ []) (ho : OverP f m k) : ClosUp f xs gone (k + 1) (k : Int) :=
  .inr ⟨k, rfl, hc, fun a ha hca => by
    by_cases e : a = k
    · subst e; exact over_refl (hc.way hne)
    · exact over_trans (h a (by omega) hca) ho⟩
theorem ClosUp.stays {f : FuncD} {xs : List Int} {gone : Int} {k m : Nat} (h : ∀ a, a < k → Cand f xs gone a → OverP f a m) (hm : Cand f xs gone m) (hc : Cand f xs gone k) (hne : xs ≠ []) (ho : ¬ OverP f m k) : ClosUp f xs gone (k + 1) (m : Int) :=
  .inr ⟨m, rfl, hm, fun a ha hca => by
    by_cases e : a = k
    · subst e
      cases xs with
      | nil => exact absurd rfl hne
      | cons x r => exact (over_total (hc.2.2 x (by simp)) (hm.2.2 x (by simp))).resolve_right ho
    · exact h a (by omega) hca⟩

set_option maxHeartbeats 12800000 in
set_option maxRecDepth 100000 in
theorem refClosest {w : World} {v u : Value} {f : FuncD} {xs : List Int} {gone : Int} (ho : OverM f w v) (hu : Ints w u xs) (hx : AllIn f xs) (hne : xs ≠ []) (hn : 0 < f.blocks.length) (h512 : f.blocks.length ≤ 512) :
    Calls Try.prog 74 #[v, u, .int .i64 gone] w fun e w' => ∃ r : Int, e = .returned (.int .i64 r) ∧ ClosUp f xs gone f.blocks.length r ∧ Below w.heap.size w w' := by
  obtain ⟨oc, ob, oo, rfl, hoc, hom, hob, hrows⟩ := ho.parts hn
  obtain ⟨nb, hnb⟩ : ∃ nb, nb = f.blocks.length := ⟨_, rfl⟩
  rw [← hnb] at hoc hrows h512 hn ⊢
  have HNB := Lib.hid hnb
  have hul := hu.le
  obtain ⟨ua, uc, ub, uo, rfl, huc, hum, hua, hux⟩ := hu.parts
  obtain ⟨ul, hul'⟩ : ∃ ul, ul = xs.length := ⟨_, rfl⟩
  rw [← hul'] at huc hua hul ⊢
  have HUL := Lib.hid hul'
  have hul0 : 0 < ul := by rw [hul']; exact List.length_pos_iff.2 hne
  obtain ⟨rfl, hub⟩ := hua hul0
  have HUX := Lib.hid hux
  have HROWS := Lib.hid hrows
  have HX := Lib.hid hx
  have HNE := Lib.hid hne
  clear ho hu hx hne hrows hux hua hul' hnb
  go_enter Try.func74, Try.ntmps74
  go_wp2
  go_loopw [7, 8] (fun bv iv wr => ∃ (a : Nat) (r : Int), a ≤ nb ∧ bv = .int .i64 r ∧ iv = .int .i64 a ∧ ClosUp f xs gone a r ∧ Below w.heap.size w wr) (fun _ iv _ => nb - (intOf iv).toNat)
  case atStart => exact ⟨0, -1, Nat.zero_le _, rfl, rfl, .inl ⟨rfl, fun a h => by omega⟩, Below.refl _ _⟩
  case round =>
    obtain ⟨a, r, ha, rfl, rfl, hC, hW⟩ := hrel
    have HC := Lib.hid hC
    have HW := Lib.hid hW
    clear hC hW
    generalize wr = w2 at *
    by_cases hlt : a < nb
    · go_wp2_with fail
      go_loopw [9, 10] (fun kv iv wr => ∃ (i : Nat) (k : Bool), i ≤ ul ∧ kv = .bool k ∧ iv = .int .i64 i ∧ (k = true ↔ ((a : Int) ≠ gone ∧ ∀ x ∈ xs.take i, OverP f a x.toNat)) ∧ Below w.heap.size w wr) (fun _ iv _ => ul - (intOf iv).toNat)
      case atStart => exact ⟨0, ((a : Int) != gone), Nat.zero_le _, rfl, rfl, by simp, HW.out⟩
      case round =>
        obtain ⟨i, k, hi, rfl, rfl, hk, hW⟩ := hrel
        have HK := Lib.hid hk
        replace HW := Lib.hid hW
        clear hk hW
        generalize wr = w4 at *
        by_cases hlti : i < ul
        · obtain ⟨x, hxd⟩ : ∃ x, x = xs.getD i 0 := ⟨_, rfl⟩
          have hxm : xs[i]? = some x := by rw [hxd]; exact list_at xs i (by have := HUL.out; omega)
          have c0 := (HW.out.cell (p := ⟨ub, uo + i, none⟩) hub).trans (HUX.out i (by have := HUL.out; omega))
          rw [← hxd] at c0
          obtain ⟨g1, g2, g3⟩ := HX.out x (List.mem_of_getElem? hxm)
          obtain ⟨xn, rfl⟩ : ∃ xn : Nat, x = (xn : Int) := ⟨x.toNat, by omega⟩
          have hxl : xn < nb := by have := HNB.out; omega
          have HTK := Lib.hid (take_snoc xs i (xn : Int) hxm)
          obtain ⟨ra, hra1, hra2, hrax⟩ := HROWS.out a hlt
          obtain ⟨y, hy1, hy2⟩ := hrax xn hxl
          have c1 := (HW.out.cell (p := ⟨ob, oo + a, none⟩) hob).trans hra1
          have c2 := (HW.out.cell (p := ⟨ra, xn, none⟩) hra2).trans hy1
          have HNX : Hid ((k && y) = true ↔ ((a : Int) ≠ gone ∧ ∀ x ∈ xs.take (i + 1), OverP f a x.toNat)) := Lib.hid (by
            rw [HTK.out, Bool.and_eq_true, HK.out, hy2]
            constructor
            · rintro ⟨⟨h1, h2⟩, h3⟩
              refine ⟨h1, fun z hz => ?_⟩
              rcases List.mem_append.1 hz with hz | hz
              · exact h2 z hz
              · simp at hz; subst hz; exact h3
            · rintro ⟨h1, h2⟩
              exact ⟨⟨h1, fun z hz => h2 z (List.mem_append.2 (.inl hz))⟩, by have := h2 (xn : Int) (by simp); exact this⟩)
          clear g1 g2 g3 hxm hxd hra1 hrax hy1 hy2
          cases k <;> cases y
          all_goals
            go_upto_region 9 with (fail)
            go_quiet (fail)
            go_wp2
            go_roundw
            case rel => exact ⟨i + 1, _, hlti, rfl, by go_num, HNX.out, below_drewN HW.out _⟩
            case measure => simp [intOf]; omega
        · have hkc : k = true ↔ Cand f xs gone a := by
            have h1 := HK.out
            rw [List.take_of_length_le (by have := HUL.out; omega)] at h1
            rw [h1]
            exact ⟨fun h => ⟨by rw [← HNB.out]; exact hlt, h.1, h.2⟩, fun h => ⟨h.2.1, h.2.2⟩⟩
          cases k
          · have HNX : Hid (ClosUp f xs gone (a + 1) r) := Lib.hid (HC.out.skip (fun h => by have := hkc.2 h; cases this))
            clear hkc
            go_wp2
            go_roundw
            case rel => exact ⟨a + 1, r, hlt, rfl, by go_num, HNX.out, HW.out⟩
            case measure => simp [intOf]; omega
          · have HCA := Lib.hid (hkc.1 rfl)
            clear hkc
            rcases HC.out with ⟨rfl, h2⟩ | ⟨m, rfl, hm, h3⟩
            · have HNX : Hid (ClosUp f xs gone (a + 1) (a : Int)) := Lib.hid (ClosUp.first h2 HCA.out HNE.out)
              clear h2
              go_wp2
              go_roundw
              case rel => exact ⟨a + 1, a, hlt, rfl, by go_num, HNX.out, HW.out⟩
              case measure => simp [intOf]; omega
            · have hml : m < nb := by have := hm.1; rw [HNB.out]; exact this
              obtain ⟨ra, hra1, hra2, hrax⟩ := HROWS.out m hml
              obtain ⟨y, hy1, hy2⟩ := hrax a hlt
              have c1 := (HW.out.cell (p := ⟨ob, oo + m, none⟩) hob).trans hra1
              have c2 := (HW.out.cell (p := ⟨ra, a, none⟩) hra2).trans hy1
              cases y
              · have HNX : Hid (ClosUp f xs gone (a + 1) (m : Int)) := Lib.hid (ClosUp.stays h3 hm HCA.out HNE.out (fun h => by have := hy2.2 h; cases this))
                clear h3 hm hra1 hrax hy1 hy2
                go_wp2
                go_roundw
                case rel => exact ⟨a + 1, m, hlt, rfl, by go_num, HNX.out, HW.out⟩
                case measure => simp [intOf]; omega
              · have HNX : Hid (ClosUp f xs gone (a + 1) (a : Int)) := Lib.hid (ClosUp.nearer h3 HCA.out HNE.out (hy2.1 rfl))
                clear h3 hm hra1 hrax hy1 hy2
                go_wp2
                go_roundw
                case rel => exact ⟨a + 1, a, hlt, rfl, by go_num, HNX.out, HW.out⟩
                case measure => simp [intOf]; omega
    · have han : a = nb := by omega
      have HNX : Hid (ClosUp f xs gone nb r) := Lib.hid (by rw [← han]; exact HC.out)
      clear han
      go_wp2
      go_ret
      exact ⟨r, rfl, HNX.out, HW.out⟩
end Go.Proofs.Ytefpmjnimnmniaa
