/- C(n, k) modulo 2^64, as the program reckons it: odd parts and twos apart. -/
import Derived.Test.YtpocmldhgnphlaaTrim
namespace Go.Proofs.Ytpocmldhgnphlaa
set_option linter.unusedSimpArgs false
set_option linter.unusedVariables false
open Go.RowKit

theorem odd_part (B : Nat) (h : 0 < B) : ∃ m t, B = m * 2 ^ t ∧ m % 2 = 1 := by
  induction B using Nat.strongRecOn with
  | _ B ih =>
    by_cases hB : B % 2 = 1
    · exact ⟨B, 0, by simp, hB⟩
    · obtain ⟨m, t, e, ho⟩ := ih (B / 2) (by omega) (by omega)
      refine ⟨m, t + 1, ?_, ho⟩
      rw [Nat.pow_succ, ← Nat.mul_assoc, ← e]; omega

theorem odd_mul {a b : Nat} (ha : a % 2 = 1) (hb : b % 2 = 1) : a * b % 2 = 1 := by
  rw [Nat.mul_mod, ha, hb]

theorem odd_unique {a b s t : Nat} (ha : a % 2 = 1) (hb : b % 2 = 1) (h : a * 2 ^ s = b * 2 ^ t) : a = b ∧ s = t := by
  induction s generalizing t with
  | zero =>
    cases t with
    | zero => simpa using h
    | succ t => exfalso; rw [Nat.pow_succ, ← Nat.mul_assoc] at h; omega
  | succ s ih =>
    cases t with
    | zero => exfalso; rw [Nat.pow_succ, ← Nat.mul_assoc] at h; omega
    | succ t =>
      rw [Nat.pow_succ, Nat.pow_succ, ← Nat.mul_assoc, ← Nat.mul_assoc] at h
      obtain ⟨e1, e2⟩ := ih (t := t) (by omega)
      exact ⟨e1, by omega⟩

/-- What the two variables say of a number B > 0. -/
def Rep (B : Nat) (out : Nat) (t : Nat) : Prop := ∃ m, B = m * 2 ^ t ∧ m % 2 = 1 ∧ out = m % 18446744073709551616

theorem rep_one : Rep 1 1 0 := ⟨1, by simp, rfl, rfl⟩

theorem rep_step {B B' out t a s b r inv na nb : Nat} (h : Rep B out t) (hB' : 0 < B') (hmul : B' * nb = B * na) (ha : a * 2 ^ s = na) (hb : b * 2 ^ r = nb) (oa : a % 2 = 1) (ob : b % 2 = 1)
    (hinv : ∃ c : Int, (b : Int) * inv = 1 + 18446744073709551616 * c) : r ≤ t + s ∧ Rep B' (out * (a * inv) % 18446744073709551616) (t + s - r) := by
  obtain ⟨m, e, om, eo⟩ := h
  obtain ⟨m', t', e', om'⟩ := odd_part B' hB'
  obtain ⟨c, hc⟩ := hinv
  have h2 : m' * b * 2 ^ (t' + r) = m * a * 2 ^ (t + s) := by
    rw [Nat.pow_add, Nat.pow_add]
    have : m' * 2 ^ t' * (b * 2 ^ r) = m * 2 ^ t * (a * 2 ^ s) := by rw [← e', hb, ha, ← e, hmul]
    generalize 2 ^ t' = p1 at *
    generalize 2 ^ r = p2 at *
    generalize 2 ^ t = p3 at *
    generalize 2 ^ s = p4 at *
    grind
  obtain ⟨e1, e2⟩ := odd_unique (odd_mul om' ob) (odd_mul om oa) h2
  refine ⟨by omega, m', ?_, om', ?_⟩
  · rw [e']; congr 2; omega
  · subst eo
    rw [Nat.mul_mod, Nat.mod_mod, ← Nat.mul_mod]
    have e3 : ((m * (a * inv) : Nat) : Int) = (m' : Nat) + 18446744073709551616 * (m' * c) := by
      have : m * (a * inv) = m' * (b * inv) := by rw [← Nat.mul_assoc, ← e1, Nat.mul_assoc]
      rw [this]
      push_cast
      rw [hc]
      grind
    omega

/-- What the inverse is good for behind so many rounds. -/
def pj (j : Nat) : Int := if j = 0 then 8 else if j = 1 then 64 else if j = 2 then 4096 else if j = 3 then 16777216 else if j = 4 then 281474976710656 else 18446744073709551616
def Inv (b x : Nat) (j : Nat) : Prop := ∃ c : Int, (b : Int) * x = 1 + pj j * c

theorem inv_start {b : Nat} (ob : b % 2 = 1) : Inv b b 0 := by
  obtain ⟨q, rfl⟩ : ∃ q, b = 2 * q + 1 := ⟨b / 2, by omega⟩
  have : (q * (q + 1)) % 2 = 0 := by
    rcases Nat.mod_two_eq_zero_or_one q with h | h
    · rw [Nat.mul_mod, h]; simp
    · rw [Nat.mul_mod, Nat.add_mod, h]
  refine ⟨((q * (q + 1) / 2 : Nat) : Int), ?_⟩
  have e : 2 * (q * (q + 1) / 2) = q * (q + 1) := by omega
  have e2 : (2 : Int) * ((q * (q + 1) / 2 : Nat) : Int) = (q : Int) * (q + 1) := by exact_mod_cast e
  simp only [pj, if_true]
  push_cast
  generalize ((q * (q + 1) / 2 : Nat) : Int) = z at e2
  push_cast at e2 ⊢
  grind

theorem inv_step {b x y : Nat} {j : Nat} (h : Inv b x j) (hj : j < 6) (hy : ∃ c : Int, (y : Int) = x * (2 - b * x) + 18446744073709551616 * c) : Inv b y (j + 1) := by
  obtain ⟨c, hc⟩ := h
  obtain ⟨d, hd⟩ := hy
  have e : (b : Int) * y = 1 - (pj j * c) * (pj j * c) + 18446744073709551616 * (b * d) := by rw [hd]; grind
  obtain ⟨u, hu⟩ : ∃ u : Int, pj j * pj j = pj (j + 1) * u := by
    match j, hj with
    | 0, _ => exact ⟨1, rfl⟩
    | 1, _ => exact ⟨1, rfl⟩
    | 2, _ => exact ⟨1, rfl⟩
    | 3, _ => exact ⟨1, rfl⟩
    | 4, _ => exact ⟨4294967296, rfl⟩
    | 5, _ => exact ⟨18446744073709551616, rfl⟩
  obtain ⟨v, hv⟩ : ∃ v : Int, (18446744073709551616 : Int) = pj (j + 1) * v := by
    match j, hj with
    | 0, _ => exact ⟨288230376151711744, rfl⟩
    | 1, _ => exact ⟨4503599627370496, rfl⟩
    | 2, _ => exact ⟨1099511627776, rfl⟩
    | 3, _ => exact ⟨65536, rfl⟩
    | 4, _ => exact ⟨1, rfl⟩
    | 5, _ => exact ⟨1, rfl⟩
  refine ⟨-(u * c * c) + v * (b * d), ?_⟩
  rw [e]
  generalize pj j = p at *
  generalize pj (j + 1) = p' at *
  rw [hv]
  grind

theorem inv_end {b x : Nat} (h : Inv b x 6) : ∃ c : Int, (b : Int) * x = 1 + 18446744073709551616 * c := h

theorem rep_end {B out t : Nat} (h : Rep B out t) : wrap64 (((out * 2 ^ min t 64 : Nat) : Int) % 18446744073709551616) = wrap64 B := by
  obtain ⟨m, e, -, eo⟩ := h
  have h1 : ∃ k : Int, ((out * 2 ^ min t 64 : Nat) : Int) = (B : Int) + 18446744073709551616 * k := by
    have h2 : (out : Int) = m - 18446744073709551616 * ((m / 18446744073709551616 : Nat) : Int) := by omega
    by_cases ht : t ≤ 64
    · rw [Nat.min_eq_left ht, e]
      push_cast
      rw [h2]
      refine ⟨-(((m / 18446744073709551616 : Nat) : Int) * 2 ^ t), ?_⟩
      generalize ((m / 18446744073709551616 : Nat) : Int) = z
      push_cast
      grind
    · rw [Nat.min_eq_right (by omega)]
      obtain ⟨d, rfl⟩ : ∃ d, t = 64 + d := ⟨t - 64, by omega⟩
      have hp : (2 : Nat) ^ 64 = 18446744073709551616 := by decide
      rw [e, Nat.pow_add, hp]
      generalize 2 ^ d = q
      refine ⟨(out : Int) - m * q, ?_⟩
      rw [Int.natCast_mul, Int.natCast_mul, Int.natCast_mul]
      grind
  obtain ⟨k, hk⟩ := h1
  generalize ((out * 2 ^ min t 64 : Nat) : Int) = z at hk
  unfold wrap64
  omega

theorem u64_wrap (z : Int) : IntKind.u64.wrap z = z % 18446744073709551616 := by simp [IntKind.wrap, IntKind.signed, IntKind.bits]

theorem inv_next {b x q : Nat} (h : Inv b x q) (hq : q < 6) : ∃ y : Nat, IntKind.u64.wrap ((x : Int) * IntKind.u64.wrap (2 - IntKind.u64.wrap (b * x))) = (y : Int) ∧ y < 18446744073709551616 ∧ Inv b y (q + 1) := by
  simp only [u64_wrap]
  generalize hz : (x : Int) * ((2 - (b : Int) * x % 18446744073709551616) % 18446744073709551616) = z
  refine ⟨(z % 18446744073709551616).toNat, by omega, by omega, inv_step h hq ?_⟩
  obtain ⟨z1, h1⟩ : ∃ z1 : Int, (((z % 18446744073709551616).toNat : Nat) : Int) = z - 18446744073709551616 * z1 := ⟨z / 18446744073709551616, by omega⟩
  rw [h1, ← hz]
  obtain ⟨c, hc⟩ : ∃ c : Int, ((2 - (b : Int) * x % 18446744073709551616) % 18446744073709551616) = 2 - (b : Int) * x + 18446744073709551616 * c :=
    ⟨-((2 - (b : Int) * x % 18446744073709551616) / 18446744073709551616) + (b : Int) * x / 18446744073709551616, by omega⟩
  rw [hc]
  exact ⟨x * c - z1, by grind⟩

theorem rep_next {B out a x : Nat} {t : Nat} (h : Rep B (out * (a * x) % 18446744073709551616) t) : ∃ y : Nat, IntKind.u64.wrap ((out : Int) * IntKind.u64.wrap (a * x)) = (y : Int) ∧ y < 18446744073709551616 ∧ Rep B y t := by
  refine ⟨_, ?_, ?_, h⟩
  · simp only [u64_wrap]
    rw [Int.mul_emod, Int.emod_emod, ← Int.mul_emod]
    rw [Int.natCast_emod, Int.natCast_mul, Int.natCast_mul]
    rfl
  · exact Nat.mod_lt _ (by omega)

def ChooseRel (n i : Nat) (o tw : Value) : Prop := ∃ out t : Nat, o = .int .u64 (out : Int) ∧ tw = .int .i64 (t : Int) ∧ out < 18446744073709551616 ∧ t ≤ 63 * i ∧ Rep (bin n i) out t

set_option maxHeartbeats 1600000 in
theorem choose {w : World} (n k : Nat) (hn : n ≤ 9223372036854775807) (hk : k ≤ 1000000) :
    Calls Try.prog 29 #[.int .i64 n, .int .i64 k] w fun e w' => e = .returned (.int .i64 (wrap64 (bin n k : Nat))) ∧ w' = w := by
  go_enter Try.func29, Try.ntmps29
  go_wp2
  go_loop [5, 6, 12] (fun o tw i => ∃ q : Nat, q ≤ k ∧ q ≤ n ∧ i = .int .i64 q ∧ ChooseRel n q o tw) (fun _ _ i => k - (intOf i).toNat)
  case atStart => exact ⟨0, by omega, by omega, rfl, 1, 0, rfl, rfl, by omega, by omega, by simpa using rep_one⟩
  case round =>
    obtain ⟨i, hik, hin, rfl, out, t, rfl, rfl, ho, ht, hrep⟩ := hrel
    have HR := Lib.hid hrep
    clear hrep
    by_cases hlt : i < k
    · by_cases hz : i = n
      · subst hz
        go_wp2
        go_ret
        exact ⟨ret_int (by rw [bin_over (by omega)]; exact (wrap_in (by unfold In64; omega)).symm), by trivial⟩
      · have hz2 : ((n : Int) - i == 0) = false := by simp; omega
        go_wp2
        go_loop [6, 8] (fun tw av => ∃ a s : Nat, av = .int .u64 (a : Int) ∧ tw = .int .i64 ((t + s : Nat) : Int) ∧ a * 2 ^ s = n - i ∧ 0 < a) (fun _ av => (intOf av).toNat)
        case atStart => exact ⟨n - i, 0, by rw [Int.ofNat_sub hin], by simp, by simp, by omega⟩
        case round =>
          obtain ⟨a, s, rfl, rfl, has, ha⟩ := hrel
          have hs : s ≤ 63 := by
            rcases Nat.lt_or_ge s 64 with h | h
            · omega
            · have h2 : 2 ^ 64 ≤ 2 ^ s := Nat.pow_le_pow_right (by omega) h
              have h3 : 2 ^ s ≤ a * 2 ^ s := Nat.le_mul_of_pos_left _ ha
              have h4 : (2 : Nat) ^ 64 = 18446744073709551616 := by decide
              omega
          have ha2 : a ≤ n - i := by rw [← has]; exact Nat.le_mul_of_pos_right _ (Nat.pow_pos (by omega))
          have HAS := Lib.hid has
          clear has
          by_cases hodd : a % 2 = 0
          · have hodd2 : ((a : Int) % 2 == 0) = true := by simp; omega
            go_wp2
            go_round
            case rel =>
              refine ⟨a / 2, s + 1, by simp, by go_num, ?_, by omega⟩
              rw [← HAS.out, Nat.pow_succ, Nat.mul_comm (2 ^ s) 2, ← Nat.mul_assoc]; congr 1; omega
            case measure => simp [intOf]; omega
          · have hodd2 : ((a : Int) % 2 == 0) = false := by simp; omega
            go_wp2
            go_loop [6, 9] (fun tw bv => ∃ b r : Nat, bv = .int .u64 (b : Int) ∧ tw = .int .i64 ((t + s : Nat) - (r : Int)) ∧ b * 2 ^ r = i + 1 ∧ 0 < b) (fun _ bv => (intOf bv).toNat)
            case atStart => exact ⟨i + 1, 0, by simp, by simp, by simp, by omega⟩
            case round =>
              obtain ⟨b, r, rfl, rfl, hbr, hb⟩ := hrel
              have hr : r ≤ 63 := by
                rcases Nat.lt_or_ge r 64 with h | h
                · omega
                · have h2 : 2 ^ 64 ≤ 2 ^ r := Nat.pow_le_pow_right (by omega) h
                  have h3 : 2 ^ r ≤ b * 2 ^ r := Nat.le_mul_of_pos_left _ hb
                  have h4 : (2 : Nat) ^ 64 = 18446744073709551616 := by decide
                  omega
              have hb2 : b ≤ i + 1 := by rw [← hbr]; exact Nat.le_mul_of_pos_right _ (Nat.pow_pos (by omega))
              have HBR := Lib.hid hbr
              clear hbr
              by_cases hbo : b % 2 = 0
              · have hbo2 : ((b : Int) % 2 == 0) = true := by simp; omega
                go_wp2
                go_round
                case rel =>
                  refine ⟨b / 2, r + 1, by simp, by simp; omega, ?_, by omega⟩
                  rw [← HBR.out, Nat.pow_succ, Nat.mul_comm (2 ^ r) 2, ← Nat.mul_assoc]; congr 1; omega
                case measure => simp [intOf]; omega
              · have hbo2 : ((b : Int) % 2 == 0) = false := by simp; omega
                go_wp2
                go_loop [10, 41] (fun xv j => ∃ x q : Nat, xv = .int .u64 (x : Int) ∧ x < 18446744073709551616 ∧ j = .int .i64 (q : Int) ∧ q ≤ 6 ∧ Inv b x q) (fun _ j => 6 - (intOf j).toNat)
                case atStart => exact ⟨b, 0, rfl, by omega, rfl, by omega, inv_start (by omega)⟩
                case round =>
                  obtain ⟨x, q, rfl, hx, rfl, hq, hinv⟩ := hrel
                  have HI := Lib.hid hinv
                  clear hinv
                  by_cases hq6 : q < 6
                  · go_wp2
                    go_round
                    case rel =>
                      obtain ⟨y, e, hy, hv⟩ := inv_next HI.out hq6
                      exact ⟨y, q + 1, by rw [e], hy, by go_num, by omega, hv⟩
                    case measure => simp [intOf]; omega
                  · obtain rfl : q = 6 := by omega
                    go_wp2
                    go_round
                    case rel =>
                      obtain ⟨hrt, hR⟩ := rep_step (B' := bin n (i + 1)) HR.out (bin_pos (by omega)) (bin_mul n i hin) HAS.out HBR.out (by omega) (by omega) (inv_end HI.out)
                      obtain ⟨y, e, hy, hv⟩ := rep_next hR
                      refine ⟨i + 1, by omega, by omega, by go_num, y, t + s - r, by rw [e], ?_, hy, by omega, hv⟩
                      rw [show ((t + s - r : Nat) : Int) = (t : Int) + s - r by omega]
                    case measure => simp [intOf]; omega
    · obtain rfl : i = k := by omega
      go_wp2
      go_ret
      refine ⟨ret_int ?_, by trivial⟩
      rw [← rep_end HR.out, u64_wrap]
      push_cast
      rfl
/-- The same, the numbers as they stand in a slot. -/
theorem chooseI {w : World} {n k : Int} (N K : Nat) (hN : n = N) (hK : k = K) (hn : N ≤ 9223372036854775807) (hk : K ≤ 1000000) :
    Calls Try.prog 29 #[.int .i64 n, .int .i64 k] w fun e w' => e = .returned (.int .i64 (wrap64 (bin N K : Nat))) ∧ w' = w := by
  subst hN; subst hK
  exact choose N K hn hk
end Go.Proofs.Ytpocmldhgnphlaa
