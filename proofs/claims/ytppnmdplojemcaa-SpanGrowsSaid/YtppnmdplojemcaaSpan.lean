/- Spans as pairs of numbers; lists of spans; which are empty. -/
import Derived.Test.YtppnmdplojemcaaLib
namespace Go.Proofs.Ytppnmdplojemcaa
set_option linter.unusedSimpArgs false
set_option linter.unusedVariables false
open Go.RowKit

structure Sp where
  lo : Int
  hi : Int
def Sp.val (s : Sp) : Value := .agg #[.int .i64 s.lo, .int .i64 s.hi]
def Sp.ok (s : Sp) : Prop := In64 s.lo ∧ In64 s.hi
def Sp.none (s : Sp) : Bool := decide (s.hi < s.lo)
def cellsOf (ps : List Sp) : List Value := ps.flatMap fun s => [.int .i64 s.lo, .int .i64 s.hi]

theorem cellsOf_len (ps : List Sp) : (cellsOf ps).length = ps.length * 2 := by
  induction ps with
  | nil => rfl
  | cons p ps ih => simp [cellsOf] at ih ⊢; omega
theorem cellsOf_lo (ps : List Sp) (j : Nat) (s : Sp) (h : ps[j]? = some s) : (cellsOf ps)[j * 2]? = some (.int .i64 s.lo) := by
  induction ps generalizing j with
  | nil => simp at h
  | cons p ps ih =>
    cases j with
    | zero => simp at h; subst h; rfl
    | succ j => rw [show (j + 1) * 2 = j * 2 + 1 + 1 by omega]; exact ih j (by simpa using h)
theorem cellsOf_hi (ps : List Sp) (j : Nat) (s : Sp) (h : ps[j]? = some s) : (cellsOf ps)[j * 2 + 1]? = some (.int .i64 s.hi) := by
  induction ps generalizing j with
  | nil => simp at h
  | cons p ps ih =>
    cases j with
    | zero => simp at h; subst h; rfl
    | succ j => rw [show (j + 1) * 2 + 1 = j * 2 + 1 + 1 + 1 by omega]; exact ih j (by simpa using h)

/-- v is a slice that reads as these spans. -/
def Spans (w : World) (v : Value) (ps : List Sp) : Prop := Row w v ps.length 2 (cellsOf ps) ∧ ∀ p ∈ ps, p.ok
theorem Spans.below {w w' : World} {v : Value} {ps : List Sp} (h : Spans w v ps) (hb : Below w.heap.size w w') : Spans w' v ps := ⟨h.1.below hb, h.2⟩
theorem Spans.parts {w : World} {v : Value} {ps : List Sp} (h : Spans w v ps) :
    ∃ a cap b off, v = .slice a ps.length cap ∧ ps.length ≤ cap ∧ cap ≤ 9223372036854775807 ∧ ps.length ≤ 17592186044416 ∧ (0 < ps.length → a = some ⟨b, off, none⟩ ∧ b < w.heap.size) ∧
      ∀ j s, ps[j]? = some s → w.cell? ⟨b, off + j * 2, none⟩ = some (.int .i64 s.lo) ∧ w.cell? ⟨b, off + j * 2 + 1, none⟩ = some (.int .i64 s.hi) := by
  obtain ⟨a, cap, b, off, hv, h1, h2, h3, h4⟩ := h.1.parts
  refine ⟨a, cap, b, off, hv, h1, by unfold maxLen at h2; omega, h.1.big, fun hp => h3 (by rw [cellsOf_len]; omega), fun j s hj => ⟨h4 _ _ (cellsOf_lo ps j s hj), by rw [Nat.add_assoc]; exact h4 _ _ (cellsOf_hi ps j s hj)⟩⟩

theorem below_alloc {w w' : World} {o : Obj} (h : Below (w.alloc o).heap.size (w.alloc o) w') : Below w.heap.size w w' := ((Below.refl _ _).alloc (Nat.le_refl _) o).trans (h.mono (by simp))
theorem below_one (w : World) (o : Obj) : Below w.heap.size w (w.alloc o) := (Below.refl _ _).alloc (Nat.le_refl _) o

set_option maxHeartbeats 800000 in
theorem emptyOne {w : World} (s : Sp) : Calls Try.prog 40 #[s.val] w fun e w' => e = .returned (.bool s.none) ∧ Below w.heap.size w w' := by
  unfold Sp.val
  have HB := Lib.hid (below_one w (.cells #[.int .i64 s.lo, .int .i64 s.hi] 23))
  go_enter Try.func40, Try.ntmps40
  go_wp2
  go_ret
  exact ⟨rfl, HB.out⟩

def foundAt (ps : List Sp) : Int := match ps.findIdx? Sp.none with | some k => k | none => -1

set_option maxHeartbeats 1600000 in
theorem indexEmpty {w : World} {v : Value} {ps : List Sp} (hv : Spans w v ps) :
    Calls Try.prog 44 #[v, .func (.func 40) #[] #[]] w fun e w' => ∃ k : Int, e = .returned (.int .i64 k) ∧ decide (0 ≤ k) = ps.any Sp.none ∧ Below w.heap.size w w' := by
  obtain ⟨a, c, b, o, rfl, hc, hm, hn, ha, hx⟩ := hv.parts
  have HA := Lib.hid ha
  have HX := Lib.hid hx
  clear hv ha hx
  generalize H1 : ps.length = n at *
  have G1 := Lib.hid H1
  clear H1
  go_enter Try.func44, Try.ntmps44
  go_wp2
  go_loopw [8] (fun i wr => ∃ k : Nat, k ≤ n ∧ i = .int .i64 k ∧ (ps.take k).any Sp.none = false ∧ Below w.heap.size w wr) (fun i _ => n - (intOf i).toNat)
  case atStart => exact ⟨0, by omega, rfl, rfl, Below.refl _ _⟩
  case round =>
    obtain ⟨k, hk, rfl, hno, hb⟩ := hrel
    have HN := Lib.hid hno
    have HB := Lib.hid hb
    clear hno
    by_cases hlt : k < n
    · obtain ⟨rfl, hbw⟩ := HA.out (by omega)
      obtain ⟨s, hs⟩ : ∃ s, ps[k]? = some s := ⟨_, List.getElem?_eq_getElem (by rw [G1.out]; exact hlt)⟩
      obtain ⟨h1, h2⟩ := HX.out k s hs
      have c1 := (hb.cell hbw).trans h1
      have c2 := (hb.cell hbw).trans h2
      have HT := Lib.hid (show ps.take (k + 1) = ps.take k ++ [s] by rw [List.take_add_one, hs]; rfl)
      clear hs h1 h2 hb
      go_wp2_with fail
      refine (emptyOne s).mono ?_
      rintro e w2 ⟨rfl, hb2⟩
      have HB2 := Lib.hid (HB.out.trans (hb2.mono HB.out.size))
      clear hb2
      cases hsn : s.none
      case true =>
        have HS := Lib.hid hsn
        clear hsn
        go_wp2
        go_ret
        refine ⟨k, rfl, ?_, HB2.out⟩
        rw [decide_eq_true (by omega), eq_comm, List.any_eq_true]
        exact ⟨s, List.mem_of_mem_take (i := k + 1) (by rw [HT.out]; simp), HS.out⟩
      case false =>
        have HS := Lib.hid hsn
        clear hsn
        go_wp2
        go_roundw
        case rel => exact ⟨k + 1, by omega, by go_num, by rw [HT.out, List.any_append, HN.out]; simp [HS.out], HB2.out⟩
        case measure => simp [intOf]; omega
    · obtain rfl : k = n := by omega
      clear hb
      go_wp2
      go_ret
      exact ⟨-1, rfl, by have h := HN.out; rw [List.take_of_length_le (by rw [G1.out]; omega)] at h; rw [h]; rfl, HB.out⟩
set_option maxHeartbeats 800000 in
theorem containsEmpty {w : World} {v : Value} {ps : List Sp} (hv : Spans w v ps) :
    Calls Try.prog 39 #[v, .func (.func 40) #[] #[]] w fun e w' => e = .returned (.bool (ps.any Sp.none)) ∧ Below w.heap.size w w' := by
  go_enter Try.func39, Try.ntmps39
  go_wp2_with fail
  refine (indexEmpty hv).mono ?_
  rintro e w1 ⟨k, rfl, hk, hb⟩
  have HK := Lib.hid hk
  have HB := Lib.hid hb
  clear hk hb hv
  go_wp2
  go_ret
  exact ⟨ret_bool HK.out, HB.out⟩

set_option maxHeartbeats 800000 in
theorem empty {w : World} {v : Value} {ps : List Sp} (hv : Spans w v ps) :
    Calls Try.prog 25 #[v] w fun e w' => e = .returned (.bool (ps.any Sp.none)) ∧ Below w.heap.size w w' := by
  go_enter Try.func25, Try.ntmps25
  go_wp2_with fail
  refine (containsEmpty hv).mono ?_
  rintro e w1 ⟨rfl, hb⟩
  have HB := Lib.hid hb
  clear hb hv
  generalize hz : ps.any Sp.none = z
  have HZ := Lib.hid hz
  clear hz
  go_wp2
  go_ret
  exact ⟨ret_bool HZ.out.symm, HB.out⟩

/-- A result that is a span. -/
theorem ret_sp {a b c d : Int} (h1 : a = c) (h2 : b = d) : Ending.returned (.agg #[.int .i64 a, .int .i64 b]) = .returned (Sp.val ⟨c, d⟩) := by rw [h1, h2]; rfl

set_option maxHeartbeats 800000 in
theorem none_any {w : World} : Calls Try.prog 26 #[] w fun e w' => e = .returned (Sp.val ⟨0, -1⟩) ∧ Below w.heap.size w w' := by
  go_enter Try.func26, Try.ntmps26
  go_wp2
  exact bodyPost_ret (v := .agg #[.int .i64 0, .int .i64 (-1)]) (by simp [results, Try.results26, go_sem]) rfl ⟨rfl, below_one _ _⟩
set_option maxHeartbeats 800000 in
theorem all_any {w : World} : Calls Try.prog 36 #[] w fun e w' => e = .returned (Sp.val ⟨-9223372036854775808, 9223372036854775807⟩) ∧ Below w.heap.size w w' := by
  go_enter Try.func36, Try.ntmps36
  go_wp2
  exact bodyPost_ret (v := .agg #[.int .i64 (-9223372036854775808), .int .i64 9223372036854775807]) (by simp [results, Try.results36, go_sem]) rfl ⟨rfl, below_one _ _⟩

theorem u64w (z : Int) : IntKind.u64.wrap z = z % 18446744073709551616 := by simp [IntKind.wrap, IntKind.signed, IntKind.bits]

def wlo (n : Int) : Int := n % 18446744073709551616
def whi (n : Int) : Int := n / 9223372036854775808
/-- A number of 128 bits, as the program keeps it. -/
def wideV (h l : Int) : Value := .agg #[.int .i64 h, .int .u64 l]

set_option maxHeartbeats 800000 in
theorem widen {w : World} (n : Int) (hn : In64 n) : Calls Try.prog 28 #[.int .i64 n] w fun e w' => e = .returned (wideV (whi n) (wlo n)) ∧ Below w.heap.size w w' := by
  obtain ⟨h1, h2⟩ := hn
  go_enter Try.func28, Try.ntmps28
  go_wp2
  exact bodyPost_ret (v := .agg #[.int .i64 (n / 9223372036854775808), .int .u64 (IntKind.u64.wrap n)]) (by simp [results, Try.results28, go_sem]) rfl ⟨by rw [u64w]; rfl, below_one _ _⟩

set_option maxHeartbeats 800000 in
theorem wraps {w : World} (h l : Int) (h1 : -9223372036854775808 ≤ h) (h2 : h ≤ 9223372036854775800) (l1 : 0 ≤ l) (l2 : l < 18446744073709551616) :
    Calls Try.prog 41 #[wideV h l] w fun e w' => e = .returned (.int .i64 (h + l / 9223372036854775808)) ∧ Below w.heap.size w w' := by
  have HB := Lib.hid (below_one w (.cells #[.int .i64 h, .int .u64 l] 41))
  unfold wideV
  go_enter Try.func41, Try.ntmps41
  go_wp2
  go_ret
  exact ⟨rfl, HB.out⟩

theorem add64 {w : World} (x y : Int) (hx : 0 ≤ x) (hy : 0 ≤ y) : (callFunc 42 #[.int .u64 x, .int .u64 y, .int .u64 0]).run Try.prog w =
    .ok (.value (.tuple #[.int .u64 ((x + y) % 18446744073709551616), .int .u64 ((x + y) / 18446744073709551616)])) w := by
  rw [run_callFunc_extern Try.func42 (by kernel_rfl) (by kernel_rfl) (by kernel_rfl) (e := add64Entry) (by kernel_rfl), run_add64 x y 0 hx hy (by omega) (by omega)]
  simp [Result.andThen]

set_option maxHeartbeats 800000 in
theorem plus {w : World} (h l g k : Int) (l1 : 0 ≤ l) (l2 : l < 18446744073709551616) (k1 : 0 ≤ k) (k2 : k < 18446744073709551616) (h1 : -2 ≤ h) (h2 : h ≤ 2) (g1 : -2 ≤ g) (g2 : g ≤ 2) :
    Calls Try.prog 29 #[wideV h l, wideV g k] w fun e w' => e = .returned (wideV (h + g + (l + k) / 18446744073709551616) ((l + k) % 18446744073709551616)) ∧ Below w.heap.size w w' := by
  unfold wideV
  have hadd := fun w : World => add64 (w := w) l k l1 k1
  have hc1 : 0 ≤ (l + k) / 18446744073709551616 := by omega
  have hc2 : (l + k) / 18446744073709551616 ≤ 1 := by omega
  go_enter Try.func29, Try.ntmps29
  go_wp2
  exact bodyPost_ret (v := .agg #[.int .i64 (h + g + (l + k) / 18446744073709551616), .int .u64 ((l + k) % 18446744073709551616)]) (by simp [results, Try.results29, go_sem]) rfl
    ⟨rfl, (((Below.refl _ _).alloc (Nat.le_refl _) _).alloc (by simp) _).alloc (by simp; omega) _⟩
end Go.Proofs.Ytppnmdplojemcaa
