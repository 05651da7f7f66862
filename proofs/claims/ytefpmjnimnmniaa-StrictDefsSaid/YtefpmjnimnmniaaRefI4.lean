/- The reference's end and phi. -/
import Derived.Test.YtefpmjnimnmniaaRefI3
namespace Go.Proofs.Ytefpmjnimnmniaa
set_option linter.unusedSimpArgs false
set_option linter.unusedVariables false
open Go.RowKit

def toOk (nb : Nat) (b : Int) : Bool := decide (1 ≤ b) && decide (b < (nb : Int))
theorem endOk_is (nb : Nat) (t : TermD) : endOk nb t = (t.to.all (toOk nb) && ((t.op == 1 && ((t.to.length : Int) == 1) && t.val == -1 && t.n == 0) || (t.op == 2 && ((t.to.length : Int) == 2) && t.n == 0) || (t.op == 3 && ((t.to.length : Int) == 0) && t.n == 0) || (t.op == 4 && ((t.to.length : Int) == 0) && t.val == -1 && decide (0 ≤ t.n)))) := by
  unfold endOk
  rw [show (t.to.length == 1) = ((t.to.length : Int) == 1) by (rw [Bool.eq_iff_iff]; simp; omega), show (t.to.length == 2) = ((t.to.length : Int) == 2) by (rw [Bool.eq_iff_iff]; simp; omega), show (t.to.length == 0) = ((t.to.length : Int) == 0) by (rw [Bool.eq_iff_iff]; simp)]
  rfl
set_option maxHeartbeats 6400000 in
theorem refEnd {w : World} {ap ab : Option Addr} {np cp nb cb : Nat} {ar ce : Int} {t : TermD} {at_ : Option Addr} {ct : Nat} (hs : Ints w (.slice at_ t.to.length ct) t.to) :
    Calls Try.prog 95 #[.agg #[.slice ap np cp, .int .i64 ar, .int .i64 ce, .slice ab nb cb], .agg (termA t at_ ct)] w fun e w' => e = .returned (.bool (endOk nb t)) ∧ Below w.heap.size w w' := by
  have HE := Lib.hid (endOk_is nb t)
  obtain ⟨r, hr⟩ : ∃ r, r = endOk nb t := ⟨_, rfl⟩
  rw [← hr] at HE ⊢
  clear hr
  obtain ⟨op, val, to, N⟩ := t
  unfold termA
  simp only at *
  obtain ⟨a, cap, b, o, hav, hc, hcm, ha, hx⟩ := hs.parts
  cases hav
  have hle := hs.1.big
  obtain ⟨n, hn⟩ : ∃ n, n = to.length := ⟨_, rfl⟩
  rw [← hn] at HE hc ha hx hle ⊢
  have HN := Lib.hid hn
  have HA := Lib.hid ha
  have HX := Lib.hid hx
  clear hn ha hx hs
  go_enter Try.func95, Try.ntmps95
  go_upto_region 1 with (fail)
  have B2 : Hid (Box ((w.alloc (.cells #[.slice ap np cp, .int .i64 ar, .int .i64 ce, .slice ab nb cb] 30)).alloc (.cells #[.int .i64 op, .int .i64 val, .slice at_ n ct, .int .i64 N] 53)) (w.heap.size) #[.slice ap np cp, .int .i64 ar, .int .i64 ce, .slice ab nb cb]) := Lib.hid (by simpa using ((Box.new w #[.slice ap np cp, .int .i64 ar, .int .i64 ce, .slice ab nb cb] 30).alloc _))
  have B3 : Hid (Box ((w.alloc (.cells #[.slice ap np cp, .int .i64 ar, .int .i64 ce, .slice ab nb cb] 30)).alloc (.cells #[.int .i64 op, .int .i64 val, .slice at_ n ct, .int .i64 N] 53)) (w.heap.size + 1) #[.int .i64 op, .int .i64 val, .slice at_ n ct, .int .i64 N]) := Lib.hid (by simpa using (Box.new (w.alloc (.cells #[.slice ap np cp, .int .i64 ar, .int .i64 ce, .slice ab nb cb] 30)) #[.int .i64 op, .int .i64 val, .slice at_ n ct, .int .i64 N] 53))
  have HW : Hid (Below w.heap.size w ((w.alloc (.cells #[.slice ap np cp, .int .i64 ar, .int .i64 ce, .slice ab nb cb] 30)).alloc (.cells #[.int .i64 op, .int .i64 val, .slice at_ n ct, .int .i64 N] 53))) := Lib.hid (((Below.refl _ _).alloc (Nat.le_refl _) _).alloc (by simp) _)
  generalize ((w.alloc (.cells #[.slice ap np cp, .int .i64 ar, .int .i64 ce, .slice ab nb cb] 30)).alloc (.cells #[.int .i64 op, .int .i64 val, .slice at_ n ct, .int .i64 N] 53)) = wv at *
  obtain ⟨lB2, cB2, fB2⟩ := B2.out
  obtain ⟨lB3, cB3, fB3⟩ := B3.out
  go_wp2_with fail
  go_loopw [5] (fun i wr => ∃ j : Nat, j ≤ n ∧ i = .int .i64 j ∧ (to.take j).all (toOk nb) = true ∧ Below w.heap.size w wr ∧ Box wr w.heap.size #[.slice ap np cp, .int .i64 ar, .int .i64 ce, .slice ab nb cb] ∧ Box wr (w.heap.size + 1) #[.int .i64 op, .int .i64 val, .slice at_ n ct, .int .i64 N]) (fun i _ => n - (intOf i).toNat)
  case atStart => exact ⟨0, Nat.zero_le _, rfl, rfl, HW.out, B2.out, B3.out⟩
  case round =>
    obtain ⟨j, hj, rfl, hall, hW, hB2, hB3⟩ := hrel
    clear lB2 cB2 fB2 lB3 cB3 fB3
    have HALL := Lib.hid hall
    replace HW := Lib.hid hW
    replace B2 := Lib.hid hB2
    replace B3 := Lib.hid hB3
    clear hall hW hB2 hB3

    obtain ⟨lB2, cB2, fB2⟩ := B2.out
    obtain ⟨lB3, cB3, fB3⟩ := B3.out
    by_cases hlt : j < n
    · obtain ⟨rfl, hbw⟩ := HA.out (by omega)
      have h0 := (HW.out.cell hbw).trans (HX.out j hlt)
      have hjx := list_at to j (by have := HN.out; omega)
      have HTS := Lib.hid (take_snoc to j _ hjx)
      have HM := Lib.hid (List.mem_of_getElem? hjx)
      clear hjx
      generalize to.getD j 0 = y at *
      cases hy1 : decide (y < 1)
      · cases hy2 : decide ((nb : Int) ≤ y)
        · have HY : Hid (toOk nb y = true) := Lib.hid (by unfold toOk; simp at hy1 hy2 ⊢; omega)
          go_upto_region 4 with (fail)
          go_quiet (fail)
          go_wp2
          go_roundw
          case rel => exact ⟨j + 1, hlt, by go_num, by rw [HTS.out, List.all_append, HALL.out]; simp [HY.out], below_drewN HW.out _, B2.out.drewN _, B3.out.drewN _⟩
          case measure => simp [intOf]; omega
        · have HY : Hid (toOk nb y = false) := Lib.hid (by unfold toOk; simp at hy1 hy2 ⊢; omega)
          go_upto_region 4 with (fail)
          go_quiet (fail)
          go_wp2
          go_ret
          exact ⟨by rw [HE.out, show to.all (toOk nb) = false by (rw [List.all_eq_false]; exact ⟨y, HM.out, by rw [HY.out]; simp⟩)]; rfl, below_drewN HW.out _⟩
      · have HY : Hid (toOk nb y = false) := Lib.hid (by unfold toOk; simp at hy1 ⊢; omega)
        go_upto_region 4 with (fail)
        go_quiet (fail)
        go_wp2
        go_ret
        exact ⟨by rw [HE.out, show to.all (toOk nb) = false by (rw [List.all_eq_false]; exact ⟨y, HM.out, by rw [HY.out]; simp⟩)]; rfl, below_drewN HW.out _⟩
    · obtain rfl : j = n := by omega
      rw [List.take_of_length_le (by have := HN.out; omega)] at HALL
      rw [HALL.out, Bool.true_and] at HE
      by_cases h1 : op = 1
      · subst h1
        cases hn1 : ((j : Int) == 1) <;> cases hv : (val == -1) <;> cases hN : (N == 0)
        all_goals
          rw [hn1, hv, hN] at HE
          go_wp2
          go_ret
          exact ⟨by rw [HE.out]; simp, HW.out⟩
      · by_cases h2 : op = 2
        · subst h2
          cases hn1 : ((j : Int) == 2) <;> cases hN : (N == 0)
          all_goals
            rw [hn1, hN] at HE
            clear h1
            go_wp2
            go_ret
            exact ⟨by rw [HE.out]; simp, HW.out⟩
        · by_cases h3 : op = 3
          · subst h3
            cases hn1 : ((j : Int) == 0) <;> cases hN : (N == 0)
            all_goals
              rw [hn1, hN] at HE
              clear h1 h2
              go_wp2
              go_ret
              exact ⟨by rw [HE.out]; simp, HW.out⟩
          · by_cases h4 : op = 4
            · subst h4
              cases hn1 : ((j : Int) == 0) <;> cases hv : (val == -1) <;> cases hN : decide (0 ≤ N)
              all_goals
                rw [hn1, hv, hN] at HE
                clear h1 h2 h3
                go_wp2
                go_ret
                exact ⟨by rw [HE.out]; simp, HW.out⟩
            · have e1 : (op == 1) = false := by simpa using h1
              have e2 : (op == 2) = false := by simpa using h2
              have e3 : (op == 3) = false := by simpa using h3
              have e4 : (op == 4) = false := by simpa using h4
              clear h1 h2 h3 h4
              rw [e1, e2, e3, e4] at HE
              go_wp2
              go_ret
              exact ⟨by rw [HE.out]; simp, HW.out⟩
end Go.Proofs.Ytefpmjnimnmniaa
