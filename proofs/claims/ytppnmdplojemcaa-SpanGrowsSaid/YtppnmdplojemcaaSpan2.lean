/- Differences of 128 bits, and the least span of two. -/
import Derived.Test.YtppnmdplojemcaaSpan
namespace Go.Proofs.Ytppnmdplojemcaa
set_option linter.unusedSimpArgs false
set_option linter.unusedVariables false
open Go.RowKit

def sub64Entry : Array Value → Sem Value := fun args => do
  let (x, y, b) ← Extern.MathBitsCarry.three "Sub64" args
  pure (Extern.MathBitsCarry.pair ((x + Extern.MathBitsCarry.m64 - y - b) % Extern.MathBitsCarry.m64) (if x < y + b then 1 else 0))

def borrow (x y : Int) : Int := if x < y then 1 else 0

theorem run_sub64 {P : Program} (x y : Int) (hx : 0 ≤ x) (hy : 0 ≤ y) (hx2 : x < 18446744073709551616) (hy2 : y < 18446744073709551616) (w : World) :
    (sub64Entry #[.int .u64 x, .int .u64 y, .int .u64 0]).run P w = .ok (.tuple #[.int .u64 ((x - y) % 18446744073709551616), .int .u64 (borrow x y)]) w := by
  have key : (sub64Entry #[.int .u64 x, .int .u64 y, .int .u64 0]).run P w =
      .ok (Extern.MathBitsCarry.pair ((x.toNat + Extern.MathBitsCarry.m64 - y.toNat - 0) % Extern.MathBitsCarry.m64) (if x.toNat < y.toNat + 0 then 1 else 0)) w := rfl
  rw [key]
  obtain ⟨X, rfl⟩ := Int.eq_ofNat_of_zero_le hx
  obtain ⟨Y, rfl⟩ := Int.eq_ofNat_of_zero_le hy
  have e1 : ((X : Int) - Y) % 18446744073709551616 = Int.ofNat ((X + 18446744073709551616 - Y - 0) % 18446744073709551616) := by
    simp only [Int.ofNat_eq_natCast]; omega
  have e2 : borrow X Y = Int.ofNat (if X < Y + 0 then 1 else 0) := by
    unfold borrow
    by_cases h : X < Y
    · rw [if_pos (by omega), if_pos (by omega)]; rfl
    · rw [if_neg (by omega), if_neg (by omega)]; rfl
  rw [e1, e2]
  simp only [Extern.MathBitsCarry.pair, Extern.MathBitsCarry.m64, Int.toNat_natCast]

theorem sub64 {w : World} (x y : Int) (hx : 0 ≤ x) (hy : 0 ≤ y) (hx2 : x < 18446744073709551616) (hy2 : y < 18446744073709551616) : (callFunc 43 #[.int .u64 x, .int .u64 y, .int .u64 0]).run Try.prog w =
    .ok (.value (.tuple #[.int .u64 ((x - y) % 18446744073709551616), .int .u64 (borrow x y)])) w := by
  rw [run_callFunc_extern Try.func43 (by kernel_rfl) (by kernel_rfl) (by kernel_rfl) (e := sub64Entry) (by kernel_rfl), run_sub64 x y hx hy hx2 hy2]
  simp [Result.andThen]

theorem borrow_eq (x y : Int) (hx : 0 ≤ x) (hy : 0 ≤ y) (hx2 : x < 18446744073709551616) (hy2 : y < 18446744073709551616) : borrow x y = -((x - y) / 18446744073709551616) := by
  unfold borrow; split <;> omega

set_option maxHeartbeats 800000 in
theorem minus {w : World} (h l g k : Int) (l1 : 0 ≤ l) (l2 : l < 18446744073709551616) (k1 : 0 ≤ k) (k2 : k < 18446744073709551616) (h1 : -2 ≤ h) (h2 : h ≤ 2) (g1 : -2 ≤ g) (g2 : g ≤ 2) :
    Calls Try.prog 34 #[wideV h l, wideV g k] w fun e w' => e = .returned (wideV (h - g + (l - k) / 18446744073709551616) ((l - k) % 18446744073709551616)) ∧ Below w.heap.size w w' := by
  unfold wideV
  have hsub := fun w : World => sub64 (w := w) l k l1 k1 l2 k2
  have hb := borrow_eq l k l1 k1 l2 k2
  have hc1 : 0 ≤ borrow l k := by rw [hb]; omega
  have hc2 : borrow l k ≤ 1 := by rw [hb]; omega
  have HBE := Lib.hid hb
  clear hb
  generalize borrow l k = c at *
  go_enter Try.func34, Try.ntmps34
  go_wp2
  exact bodyPost_ret (v := .agg #[.int .i64 (h - g - c), .int .u64 ((l - k) % 18446744073709551616)]) (by simp [results, Try.results34, go_sem]) rfl
    ⟨by rw [HBE.out, Int.sub_neg], (((Below.refl _ _).alloc (Nat.le_refl _) _).alloc (by simp) _).alloc (by simp; omega) _⟩
/-- Three boxes, one behind the other. -/
structure Boxes3 (w W : World) (A B C : Array Value) : Prop where
  size : W.heap.size = w.heap.size + 1 + 1 + 1
  below : Below w.heap.size w W
  a : ∀ j, W.cell? ⟨w.heap.size, j, none⟩ = A[j]?
  b : ∀ j, W.cell? ⟨w.heap.size + 1, j, none⟩ = B[j]?
  c : ∀ j, W.cell? ⟨w.heap.size + 1 + 1, j, none⟩ = C[j]?
  free : ∀ j, W.frozen? ⟨w.heap.size + 1 + 1, j, none⟩ = false
theorem boxes3 (w : World) (A B C : Array Value) (t1 t2 t3 : TypeId) : Boxes3 w (((w.alloc (.cells A t1)).alloc (.cells B t2)).alloc (.cells C t3)) A B C := by
  refine ⟨by simp, (((Below.refl _ _).alloc (Nat.le_refl _) _).alloc (by simp) _).alloc (by simp; omega) _, fun j => ?_, fun j => ?_, fun j => ?_, fun j => ?_⟩
  · rw [World.cell?_alloc_past _ _ _ (by simp; omega), World.cell?_alloc_past _ _ _ (by simp), World.cell?_alloc_at _ _ _ _ rfl]
  · rw [World.cell?_alloc_past _ _ _ (by simp), World.cell?_alloc_at _ _ _ _ (by simp)]
  · rw [World.cell?_alloc_at _ _ _ _ (by simp)]
  · exact World.frozen?_alloc_at _ _ _ _ (by simp)

def foldR (h l g k : Int) : Sp := if h + l / 9223372036854775808 = g + k / 9223372036854775808 then ⟨wrap64 l, wrap64 k⟩ else ⟨-9223372036854775808, 9223372036854775807⟩

set_option maxHeartbeats 1600000 in
theorem fold {w : World} (h l g k : Int) (l1 : 0 ≤ l) (l2 : l < 18446744073709551616) (k1 : 0 ≤ k) (k2 : k < 18446744073709551616) (h1 : -9 ≤ h) (h2 : h ≤ 9) (g1 : -9 ≤ g) (g2 : g ≤ 9) :
    Calls Try.prog 27 #[wideV h l, wideV g k] w fun e w' => e = .returned (foldR h l g k).val ∧ Below w.heap.size w w' := by
  have W1 := Lib.hid (fun (w : World) => wraps (w := w) h l (by omega) (by omega) l1 l2)
  have W2 := Lib.hid (fun (w : World) => wraps (w := w) g k (by omega) (by omega) k1 k2)
  unfold wideV at W1 W2 ⊢
  have HB0 : Hid (Below w.heap.size w (((w.alloc (.cells #[.int .i64 h, .int .u64 l] 41)).alloc (.cells #[.int .i64 g, .int .u64 k] 41)).alloc (.cells #[.int .i64 0, .int .i64 0] 23))) :=
    Lib.hid ((((Below.refl _ _).alloc (Nat.le_refl _) _).alloc (by simp) _).alloc (by simp; omega) _)
  go_enter Try.func27, Try.ntmps27
  go_wp2
  have HX := boxes3 w #[.int .i64 h, .int .u64 l] #[.int .i64 g, .int .u64 k] #[.int .i64 0, .int .i64 0] 41 41 23
  have H3 := Lib.hid HX
  clear HX
  generalize (((w.alloc (.cells #[.int .i64 h, .int .u64 l] 41)).alloc (.cells #[.int .i64 g, .int .u64 k] 41)).alloc (.cells #[.int .i64 0, .int .i64 0] 23)) = wv at *
  have hz := H3.out.size
  have hsz : w.heap.size + 1 + 1 < wv.heap.size := by omega
  clear hz
  have c1 : wv.cell? ⟨w.heap.size, 0, none⟩ = some (.int .i64 h) := H3.out.a 0
  have c2 : wv.cell? ⟨w.heap.size, 1, none⟩ = some (.int .u64 l) := H3.out.a 1
  have c3 : wv.cell? ⟨w.heap.size + 1, 0, none⟩ = some (.int .i64 g) := H3.out.b 0
  have c4 : wv.cell? ⟨w.heap.size + 1, 1, none⟩ = some (.int .u64 k) := H3.out.b 1
  go_region_held3 (fun w' => w'.cell? ⟨w.heap.size, 0, none⟩ = some (.int .i64 h) ∧ w'.cell? ⟨w.heap.size, 1, none⟩ = some (.int .u64 l) ∧ w'.cell? ⟨w.heap.size + 1, 0, none⟩ = some (.int .i64 g) ∧ w'.cell? ⟨w.heap.size + 1, 1, none⟩ = some (.int .u64 k))
    (first
      | go_keep
      | (go_split_ands
         refine ⟨?_, ?_, ?_, ?_⟩
         · (rw [hb8.cell (by have := hb6.size; simp at *; omega)]; assumption)
         · (rw [hb8.cell (by have := hb6.size; simp at *; omega)]; assumption)
         · (rw [hb8.cell (by have := hb6.size; simp at *; omega)]; assumption)
         · (rw [hb8.cell (by have := hb6.size; simp at *; omega)]; assumption))
      | (go_split_ands
         refine ⟨?_, ?_, ?_, ?_⟩
         · (rw [hb6.cell (by simp; omega)]; assumption)
         · (rw [hb6.cell (by simp; omega)]; assumption)
         · (rw [hb6.cell (by simp; omega)]; assumption)
         · (rw [hb6.cell (by simp; omega)]; assumption)))
    ((first
      | (go_at_call 41; (with_reducible refine (W1.out _).mono ?_); rintro e w6 ⟨rfl, hb6⟩)
      | (go_at_call 41; (with_reducible refine (W2.out _).mono ?_); rintro e w8 ⟨rfl, hb8⟩)))
  have HB8 := Lib.hid (show Below wv.heap.size wv w8 from ((Below.refl _ wv).drew.trans (hb6.mono (by simp))).trans (hb8.mono (by have := hb6.size; simpa using this)))
  clear hb6 hb8 W1 W2
  have hs8 := HB8.out.size
  have d2 := (HB8.out.cell (p := ⟨w.heap.size, 1, none⟩) (by simp; omega)).trans c2
  have d4 := (HB8.out.cell (p := ⟨w.heap.size + 1, 1, none⟩) (by simp; omega)).trans c4
  have d5 : w8.cell? ⟨w.heap.size + 1 + 1, 0, none⟩ = some (.int .i64 0) := (HB8.out.cell (by simp; omega)).trans (H3.out.c 0)
  have d6 : w8.cell? ⟨w.heap.size + 1 + 1, 1, none⟩ = some (.int .i64 0) := (HB8.out.cell (by simp; omega)).trans (H3.out.c 1)
  have f5 : w8.frozen? ⟨w.heap.size + 1 + 1, 0, none⟩ = false := (HB8.out.frozen (by simp; omega)).trans (H3.out.free 0)
  have f6 : w8.frozen? ⟨w.heap.size + 1 + 1, 1, none⟩ = false := (HB8.out.frozen (by simp; omega)).trans (H3.out.free 1)
  clear c1 c2 c3 c4
  by_cases he : h + l / 9223372036854775808 = g + k / 9223372036854775808
  · have hb : (h + l / 9223372036854775808 == g + k / 9223372036854775808) = true := by simpa using he
    have HE := Lib.hid he
    clear he
    go_wp2
    exact bodyPost_ret (v := .agg #[.int .i64 (wrap64 l), .int .i64 (wrap64 k)]) (by simp [results, Try.results27, go_sem, d5, d6]) rfl
      ⟨by unfold foldR; rw [if_pos HE.out]; rfl, ((HB0.out.trans (HB8.out.mono (by omega))).setCell (by simp; omega) _).setCell (by simp; omega) _⟩
  · have hb : (h + l / 9223372036854775808 == g + k / 9223372036854775808) = false := by simpa using he
    have HE := Lib.hid he
    clear he
    go_wp2_with fail
    refine all_any.mono ?_
    rintro e w9 ⟨rfl, hb9⟩
    have HB9 := Lib.hid hb9
    have k5 := (HB9.out.cell (p := ⟨w.heap.size + 1 + 1, 0, none⟩) (by simp; omega)).trans d5
    have k6 := (HB9.out.cell (p := ⟨w.heap.size + 1 + 1, 1, none⟩) (by simp; omega)).trans d6
    have q5 := (HB9.out.frozen (p := ⟨w.heap.size + 1 + 1, 0, none⟩) (by simp; omega)).trans f5
    have q6 := (HB9.out.frozen (p := ⟨w.heap.size + 1 + 1, 1, none⟩) (by simp; omega)).trans f6
    clear d2 d4 d5 d6 f5 f6 hb9
    unfold Sp.val
    go_wp2
    exact bodyPost_ret (v := .agg #[.int .i64 (-9223372036854775808), .int .i64 9223372036854775807]) (by simp [results, Try.results27, go_sem, k5, k6]) rfl
      ⟨by unfold foldR; rw [if_neg HE.out]; rfl, ((HB0.out.trans ((HB8.out.mono (by omega)).trans (HB9.out.mono (by omega)))).setCell (by simp; omega) _).setCell (by simp; omega) _⟩
end Go.Proofs.Ytppnmdplojemcaa
