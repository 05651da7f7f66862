/- What the claim needs, part 29. -/
import Derived.Test.YtjmikinbdclfbaaCB28
import Derived.Test.YtjmikinbdclfbaaCB27
import Derived.Test.YtjmikinbdclfbaaCB25
import Derived.Test.YtjmikinbdclfbaaCB14
namespace Go.Proofs.Ytjmikinbdclfbaa
set_option linter.unusedSimpArgs false
set_option linter.unusedVariables false
open Go.RowKit
set_option maxRecDepth 100000 in
set_option maxHeartbeats 1600000 in
theorem rodd_1 {w : World} {a : Option Addr} {n c : Nat} : Calls Try.prog 11 #[.int .i64 1, .slice a n c] w (SameR (.tuple #[.int .i64 0, .int .i64 1]) w) := by
  go_enter Try.func11, Try.ntmps11
  go_wp2_with fail
  refine (show Calls Try.prog 24 #[.int .i64 1] w (fun e w' => e = .returned (.tuple #[.string ⟨#[]⟩, .int .i64 1, .int .i64 1, .bool true]) ∧ w = w') from refShape 1).mono ?_
  rintro e w1 ⟨rfl, rfl⟩
  go_wp2
  go_ret2
  exact ⟨rfl, Below.refl _ _⟩
set_option maxRecDepth 100000 in
set_option maxHeartbeats 1600000 in
theorem rodd_2 {w : World} {a : Option Addr} {n c : Nat} : Calls Try.prog 11 #[.int .i64 2, .slice a n c] w (SameR (.tuple #[.int .i64 0, .int .i64 1]) w) := by
  go_enter Try.func11, Try.ntmps11
  go_wp2_with fail
  refine (show Calls Try.prog 24 #[.int .i64 2] w (fun e w' => e = .returned (.tuple #[.string ⟨#[]⟩, .int .i64 2, .int .i64 2, .bool true]) ∧ w = w') from refShape 2).mono ?_
  rintro e w1 ⟨rfl, rfl⟩
  go_wp2
  go_ret2
  exact ⟨rfl, Below.refl _ _⟩
set_option maxRecDepth 100000 in
set_option maxHeartbeats 1600000 in
theorem rodd_18 {w : World} {a : Option Addr} {n c : Nat} : Calls Try.prog 11 #[.int .i64 18, .slice a n c] w (SameR (.tuple #[.int .i64 0, .int .i64 1]) w) := by
  go_enter Try.func11, Try.ntmps11
  go_wp2_with fail
  refine (show Calls Try.prog 24 #[.int .i64 18] w (fun e w' => e = .returned (.tuple #[.string ⟨#[]⟩, .int .i64 1, .int .i64 3, .bool true]) ∧ w = w') from refShape 18).mono ?_
  rintro e w1 ⟨rfl, rfl⟩
  go_wp2
  go_ret2
  exact ⟨rfl, Below.refl _ _⟩
set_option maxRecDepth 100000 in
set_option maxHeartbeats 1600000 in
theorem rodd_19 {w : World} {a : Option Addr} {n c : Nat} : Calls Try.prog 11 #[.int .i64 19, .slice a n c] w (SameR (.tuple #[.int .i64 0, .int .i64 1]) w) := by
  go_enter Try.func11, Try.ntmps11
  go_wp2_with fail
  refine (show Calls Try.prog 24 #[.int .i64 19] w (fun e w' => e = .returned (.tuple #[.string ⟨#[73]⟩, .int .i64 1, .int .i64 3, .bool true]) ∧ w = w') from refShape 19).mono ?_
  rintro e w1 ⟨rfl, rfl⟩
  go_wp2
  go_ret2
  exact ⟨rfl, Below.refl _ _⟩
set_option maxRecDepth 100000 in
set_option maxHeartbeats 1600000 in
theorem rodd_20 {w : World} {a : Option Addr} {n c : Nat} : Calls Try.prog 11 #[.int .i64 20, .slice a n c] w (SameR (.tuple #[.int .i64 0, .int .i64 1]) w) := by
  go_enter Try.func11, Try.ntmps11
  go_wp2_with fail
  refine (show Calls Try.prog 24 #[.int .i64 20] w (fun e w' => e = .returned (.tuple #[.string ⟨#[73, 73]⟩, .int .i64 0, .int .i64 3, .bool true]) ∧ w = w') from refShape 20).mono ?_
  rintro e w1 ⟨rfl, rfl⟩
  go_wp2
  go_ret2
  exact ⟨rfl, Below.refl _ _⟩
set_option maxRecDepth 100000 in
set_option maxHeartbeats 1600000 in
theorem rodd_21 {w : World} {a : Option Addr} {n c : Nat} : Calls Try.prog 11 #[.int .i64 21, .slice a n c] w (SameR (.tuple #[.int .i64 0, .int .i64 1]) w) := by
  go_enter Try.func11, Try.ntmps11
  go_wp2_with fail
  refine (show Calls Try.prog 24 #[.int .i64 21] w (fun e w' => e = .returned (.tuple #[.string ⟨#[73]⟩, .int .i64 1, .int .i64 3, .bool true]) ∧ w = w') from refShape 21).mono ?_
  rintro e w1 ⟨rfl, rfl⟩
  go_wp2
  go_ret2
  exact ⟨rfl, Below.refl _ _⟩
set_option maxRecDepth 100000 in
set_option maxHeartbeats 1600000 in
theorem rodd_22 {w : World} {a : Option Addr} {n c : Nat} : Calls Try.prog 11 #[.int .i64 22, .slice a n c] w (SameR (.tuple #[.int .i64 0, .int .i64 1]) w) := by
  go_enter Try.func11, Try.ntmps11
  go_wp2_with fail
  refine (show Calls Try.prog 24 #[.int .i64 22] w (fun e w' => e = .returned (.tuple #[.string ⟨#[73, 73]⟩, .int .i64 0, .int .i64 3, .bool true]) ∧ w = w') from refShape 22).mono ?_
  rintro e w1 ⟨rfl, rfl⟩
  go_wp2
  go_ret2
  exact ⟨rfl, Below.refl _ _⟩
set_option maxRecDepth 100000 in
set_option maxHeartbeats 1600000 in
theorem rodd_23 {w : World} {a : Option Addr} {n c : Nat} : Calls Try.prog 11 #[.int .i64 23, .slice a n c] w (SameR (.tuple #[.int .i64 0, .int .i64 1]) w) := by
  go_enter Try.func11, Try.ntmps11
  go_wp2_with fail
  refine (show Calls Try.prog 24 #[.int .i64 23] w (fun e w' => e = .returned (.tuple #[.string ⟨#[73]⟩, .int .i64 0, .int .i64 0, .bool true]) ∧ w = w') from refShape 23).mono ?_
  rintro e w1 ⟨rfl, rfl⟩
  go_wp2
  go_ret2
  exact ⟨rfl, Below.refl _ _⟩
set_option maxRecDepth 100000 in
set_option maxHeartbeats 1600000 in
theorem rodd_24 {w : World} {a : Option Addr} {n c : Nat} : Calls Try.prog 11 #[.int .i64 24, .slice a n c] w (SameR (.tuple #[.int .i64 0, .int .i64 1]) w) := by
  go_enter Try.func11, Try.ntmps11
  go_wp2_with fail
  refine (show Calls Try.prog 24 #[.int .i64 24] w (fun e w' => e = .returned (.tuple #[.string ⟨#[]⟩, .int .i64 1, .int .i64 4, .bool true]) ∧ w = w') from refShape 24).mono ?_
  rintro e w1 ⟨rfl, rfl⟩
  go_wp2
  go_ret2
  exact ⟨rfl, Below.refl _ _⟩
set_option maxRecDepth 100000 in
set_option maxHeartbeats 1600000 in
theorem rodd_25 {w : World} {a : Option Addr} {n c : Nat} : Calls Try.prog 11 #[.int .i64 25, .slice a n c] w (SameR (.tuple #[.int .i64 0, .int .i64 1]) w) := by
  go_enter Try.func11, Try.ntmps11
  go_wp2_with fail
  refine (show Calls Try.prog 24 #[.int .i64 25] w (fun e w' => e = .returned (.tuple #[.string ⟨#[73]⟩, .int .i64 0, .int .i64 4, .bool true]) ∧ w = w') from refShape 25).mono ?_
  rintro e w1 ⟨rfl, rfl⟩
  go_wp2
  go_ret2
  exact ⟨rfl, Below.refl _ _⟩
set_option maxRecDepth 100000 in
set_option maxHeartbeats 1600000 in
theorem rlen_3 {w : World} {a : Option Addr} {n c : Nat} (h : ¬ n = 2) : Calls Try.prog 11 #[.int .i64 3, .slice a n c] w (SameR (.tuple #[.int .i64 0, .int .i64 1]) w) := by
  have ht : (((n : Nat) : Int) != 2) = true := by simp; omega
  clear h
  go_enter Try.func11, Try.ntmps11
  go_wp2_with fail
  refine (show Calls Try.prog 24 #[.int .i64 3] w (fun e w' => e = .returned (.tuple #[.string ⟨#[73, 73]⟩, .int .i64 1, .int .i64 0, .bool true]) ∧ w = w') from refShape 3).mono ?_
  rintro e w1 ⟨rfl, rfl⟩
  go_wp2
  go_ret2
  exact ⟨rfl, Below.refl _ _⟩
set_option maxRecDepth 100000 in
set_option maxHeartbeats 1600000 in
theorem rlen_4 {w : World} {a : Option Addr} {n c : Nat} (h : ¬ n = 2) : Calls Try.prog 11 #[.int .i64 4, .slice a n c] w (SameR (.tuple #[.int .i64 0, .int .i64 1]) w) := by
  have ht : (((n : Nat) : Int) != 2) = true := by simp; omega
  clear h
  go_enter Try.func11, Try.ntmps11
  go_wp2_with fail
  refine (show Calls Try.prog 24 #[.int .i64 4] w (fun e w' => e = .returned (.tuple #[.string ⟨#[73, 73]⟩, .int .i64 1, .int .i64 0, .bool true]) ∧ w = w') from refShape 4).mono ?_
  rintro e w1 ⟨rfl, rfl⟩
  go_wp2
  go_ret2
  exact ⟨rfl, Below.refl _ _⟩
set_option maxRecDepth 100000 in
set_option maxHeartbeats 1600000 in
theorem rlen_5 {w : World} {a : Option Addr} {n c : Nat} (h : ¬ n = 2) : Calls Try.prog 11 #[.int .i64 5, .slice a n c] w (SameR (.tuple #[.int .i64 0, .int .i64 1]) w) := by
  have ht : (((n : Nat) : Int) != 2) = true := by simp; omega
  clear h
  go_enter Try.func11, Try.ntmps11
  go_wp2_with fail
  refine (show Calls Try.prog 24 #[.int .i64 5] w (fun e w' => e = .returned (.tuple #[.string ⟨#[73, 73]⟩, .int .i64 1, .int .i64 0, .bool true]) ∧ w = w') from refShape 5).mono ?_
  rintro e w1 ⟨rfl, rfl⟩
  go_wp2
  go_ret2
  exact ⟨rfl, Below.refl _ _⟩
set_option maxRecDepth 100000 in
set_option maxHeartbeats 1600000 in
theorem rlen_6 {w : World} {a : Option Addr} {n c : Nat} (h : ¬ n = 2) : Calls Try.prog 11 #[.int .i64 6, .slice a n c] w (SameR (.tuple #[.int .i64 0, .int .i64 1]) w) := by
  have ht : (((n : Nat) : Int) != 2) = true := by simp; omega
  clear h
  go_enter Try.func11, Try.ntmps11
  go_wp2_with fail
  refine (show Calls Try.prog 24 #[.int .i64 6] w (fun e w' => e = .returned (.tuple #[.string ⟨#[73, 73]⟩, .int .i64 1, .int .i64 0, .bool true]) ∧ w = w') from refShape 6).mono ?_
  rintro e w1 ⟨rfl, rfl⟩
  go_wp2
  go_ret2
  exact ⟨rfl, Below.refl _ _⟩
set_option maxRecDepth 100000 in
set_option maxHeartbeats 1600000 in
theorem rlen_7 {w : World} {a : Option Addr} {n c : Nat} (h : ¬ n = 2) : Calls Try.prog 11 #[.int .i64 7, .slice a n c] w (SameR (.tuple #[.int .i64 0, .int .i64 1]) w) := by
  have ht : (((n : Nat) : Int) != 2) = true := by simp; omega
  clear h
  go_enter Try.func11, Try.ntmps11
  go_wp2_with fail
  refine (show Calls Try.prog 24 #[.int .i64 7] w (fun e w' => e = .returned (.tuple #[.string ⟨#[73, 73]⟩, .int .i64 1, .int .i64 0, .bool true]) ∧ w = w') from refShape 7).mono ?_
  rintro e w1 ⟨rfl, rfl⟩
  go_wp2
  go_ret2
  exact ⟨rfl, Below.refl _ _⟩
set_option maxRecDepth 100000 in
set_option maxHeartbeats 1600000 in
theorem rlen_8 {w : World} {a : Option Addr} {n c : Nat} (h : ¬ n = 2) : Calls Try.prog 11 #[.int .i64 8, .slice a n c] w (SameR (.tuple #[.int .i64 0, .int .i64 1]) w) := by
  have ht : (((n : Nat) : Int) != 2) = true := by simp; omega
  clear h
  go_enter Try.func11, Try.ntmps11
  go_wp2_with fail
  refine (show Calls Try.prog 24 #[.int .i64 8] w (fun e w' => e = .returned (.tuple #[.string ⟨#[73, 73]⟩, .int .i64 1, .int .i64 0, .bool true]) ∧ w = w') from refShape 8).mono ?_
  rintro e w1 ⟨rfl, rfl⟩
  go_wp2
  go_ret2
  exact ⟨rfl, Below.refl _ _⟩
set_option maxRecDepth 100000 in
set_option maxHeartbeats 1600000 in
theorem rlen_9 {w : World} {a : Option Addr} {n c : Nat} (h : ¬ n = 2) : Calls Try.prog 11 #[.int .i64 9, .slice a n c] w (SameR (.tuple #[.int .i64 0, .int .i64 1]) w) := by
  have ht : (((n : Nat) : Int) != 2) = true := by simp; omega
  clear h
  go_enter Try.func11, Try.ntmps11
  go_wp2_with fail
  refine (show Calls Try.prog 24 #[.int .i64 9] w (fun e w' => e = .returned (.tuple #[.string ⟨#[73, 73]⟩, .int .i64 1, .int .i64 0, .bool true]) ∧ w = w') from refShape 9).mono ?_
  rintro e w1 ⟨rfl, rfl⟩
  go_wp2
  go_ret2
  exact ⟨rfl, Below.refl _ _⟩
set_option maxRecDepth 100000 in
set_option maxHeartbeats 1600000 in
theorem rlen_10 {w : World} {a : Option Addr} {n c : Nat} (h : ¬ n = 2) : Calls Try.prog 11 #[.int .i64 10, .slice a n c] w (SameR (.tuple #[.int .i64 0, .int .i64 1]) w) := by
  have ht : (((n : Nat) : Int) != 2) = true := by simp; omega
  clear h
  go_enter Try.func11, Try.ntmps11
  go_wp2_with fail
  refine (show Calls Try.prog 24 #[.int .i64 10] w (fun e w' => e = .returned (.tuple #[.string ⟨#[73, 73]⟩, .int .i64 1, .int .i64 0, .bool true]) ∧ w = w') from refShape 10).mono ?_
  rintro e w1 ⟨rfl, rfl⟩
  go_wp2
  go_ret2
  exact ⟨rfl, Below.refl _ _⟩
set_option maxRecDepth 100000 in
set_option maxHeartbeats 1600000 in
theorem rlen_11 {w : World} {a : Option Addr} {n c : Nat} (h : ¬ n = 2) : Calls Try.prog 11 #[.int .i64 11, .slice a n c] w (SameR (.tuple #[.int .i64 0, .int .i64 1]) w) := by
  have ht : (((n : Nat) : Int) != 2) = true := by simp; omega
  clear h
  go_enter Try.func11, Try.ntmps11
  go_wp2_with fail
  refine (show Calls Try.prog 24 #[.int .i64 11] w (fun e w' => e = .returned (.tuple #[.string ⟨#[73, 73]⟩, .int .i64 1, .int .i64 0, .bool true]) ∧ w = w') from refShape 11).mono ?_
  rintro e w1 ⟨rfl, rfl⟩
  go_wp2
  go_ret2
  exact ⟨rfl, Below.refl _ _⟩
set_option maxRecDepth 100000 in
set_option maxHeartbeats 1600000 in
theorem rlen_12 {w : World} {a : Option Addr} {n c : Nat} (h : ¬ n = 2) : Calls Try.prog 11 #[.int .i64 12, .slice a n c] w (SameR (.tuple #[.int .i64 0, .int .i64 1]) w) := by
  have ht : (((n : Nat) : Int) != 2) = true := by simp; omega
  clear h
  go_enter Try.func11, Try.ntmps11
  go_wp2_with fail
  refine (show Calls Try.prog 24 #[.int .i64 12] w (fun e w' => e = .returned (.tuple #[.string ⟨#[73, 73]⟩, .int .i64 1, .int .i64 0, .bool true]) ∧ w = w') from refShape 12).mono ?_
  rintro e w1 ⟨rfl, rfl⟩
  go_wp2
  go_ret2
  exact ⟨rfl, Below.refl _ _⟩
set_option maxRecDepth 100000 in
set_option maxHeartbeats 1600000 in
theorem rlen_13 {w : World} {a : Option Addr} {n c : Nat} (h : ¬ n = 2) : Calls Try.prog 11 #[.int .i64 13, .slice a n c] w (SameR (.tuple #[.int .i64 0, .int .i64 1]) w) := by
  have ht : (((n : Nat) : Int) != 2) = true := by simp; omega
  clear h
  go_enter Try.func11, Try.ntmps11
  go_wp2_with fail
  refine (show Calls Try.prog 24 #[.int .i64 13] w (fun e w' => e = .returned (.tuple #[.string ⟨#[73, 73]⟩, .int .i64 2, .int .i64 0, .bool true]) ∧ w = w') from refShape 13).mono ?_
  rintro e w1 ⟨rfl, rfl⟩
  go_wp2
  go_ret2
  exact ⟨rfl, Below.refl _ _⟩
set_option maxRecDepth 100000 in
set_option maxHeartbeats 1600000 in
theorem rlen_14 {w : World} {a : Option Addr} {n c : Nat} (h : ¬ n = 2) : Calls Try.prog 11 #[.int .i64 14, .slice a n c] w (SameR (.tuple #[.int .i64 0, .int .i64 1]) w) := by
  have ht : (((n : Nat) : Int) != 2) = true := by simp; omega
  clear h
  go_enter Try.func11, Try.ntmps11
  go_wp2_with fail
  refine (show Calls Try.prog 24 #[.int .i64 14] w (fun e w' => e = .returned (.tuple #[.string ⟨#[73, 73]⟩, .int .i64 2, .int .i64 0, .bool true]) ∧ w = w') from refShape 14).mono ?_
  rintro e w1 ⟨rfl, rfl⟩
  go_wp2
  go_ret2
  exact ⟨rfl, Below.refl _ _⟩
set_option maxRecDepth 100000 in
set_option maxHeartbeats 1600000 in
theorem rlen_15 {w : World} {a : Option Addr} {n c : Nat} (h : ¬ n = 2) : Calls Try.prog 11 #[.int .i64 15, .slice a n c] w (SameR (.tuple #[.int .i64 0, .int .i64 1]) w) := by
  have ht : (((n : Nat) : Int) != 2) = true := by simp; omega
  clear h
  go_enter Try.func11, Try.ntmps11
  go_wp2_with fail
  refine (show Calls Try.prog 24 #[.int .i64 15] w (fun e w' => e = .returned (.tuple #[.string ⟨#[73, 73]⟩, .int .i64 2, .int .i64 0, .bool true]) ∧ w = w') from refShape 15).mono ?_
  rintro e w1 ⟨rfl, rfl⟩
  go_wp2
  go_ret2
  exact ⟨rfl, Below.refl _ _⟩
set_option maxRecDepth 100000 in
set_option maxHeartbeats 1600000 in
theorem rlen_16 {w : World} {a : Option Addr} {n c : Nat} (h : ¬ n = 1) : Calls Try.prog 11 #[.int .i64 16, .slice a n c] w (SameR (.tuple #[.int .i64 0, .int .i64 1]) w) := by
  have ht : (((n : Nat) : Int) != 1) = true := by simp; omega
  clear h
  go_enter Try.func11, Try.ntmps11
  go_wp2_with fail
  refine (show Calls Try.prog 24 #[.int .i64 16] w (fun e w' => e = .returned (.tuple #[.string ⟨#[66]⟩, .int .i64 2, .int .i64 0, .bool true]) ∧ w = w') from refShape 16).mono ?_
  rintro e w1 ⟨rfl, rfl⟩
  go_wp2
  go_ret2
  exact ⟨rfl, Below.refl _ _⟩
set_option maxRecDepth 100000 in
set_option maxHeartbeats 1600000 in
theorem rlen_17 {w : World} {a : Option Addr} {n c : Nat} (h : ¬ n = 3) : Calls Try.prog 11 #[.int .i64 17, .slice a n c] w (SameR (.tuple #[.int .i64 0, .int .i64 1]) w) := by
  have ht : (((n : Nat) : Int) != 3) = true := by simp; omega
  clear h
  go_enter Try.func11, Try.ntmps11
  go_wp2_with fail
  refine (show Calls Try.prog 24 #[.int .i64 17] w (fun e w' => e = .returned (.tuple #[.string ⟨#[66, 73, 73]⟩, .int .i64 1, .int .i64 0, .bool true]) ∧ w = w') from refShape 17).mono ?_
  rintro e w1 ⟨rfl, rfl⟩
  go_wp2
  go_ret2
  exact ⟨rfl, Below.refl _ _⟩
set_option maxRecDepth 100000 in
set_option maxHeartbeats 1600000 in
theorem rnone {w : World} {op : Int} (h : op < 1 ∨ 25 < op) {a : Option Addr} {n c : Nat} : Calls Try.prog 11 #[.int .i64 op, .slice a n c] w (SameR (.tuple #[.int .i64 0, .int .i64 1]) w) := by
  have hs : shp op = none := by unfold shp; repeat (rw [if_neg (by omega)])
  have hs0 : shp0 op = ⟨0, [], 0⟩ := by unfold shp0; rw [hs]; rfl
  have HS := Lib.hid (show RefShapeR op w = fun e w' => e = .returned (.tuple #[.string ⟨#[]⟩, .int .i64 0, .int .i64 0, .bool false]) ∧ w = w' by unfold RefShapeR; rw [hs0, hs]; rfl)
  have HC := Lib.hid (refShape (w := w) op)
  rw [HS.out] at HC
  clear h hs hs0
  go_enter Try.func11, Try.ntmps11
  go_wp2_with fail
  refine HC.out.mono ?_
  rintro e w1 ⟨rfl, rfl⟩
  go_wp2
  go_ret2
  exact ⟨rfl, Below.refl _ _⟩
set_option maxRecDepth 100000 in
set_option maxHeartbeats 1600000 in
theorem rcalc16 {w : World} {bk o c : Nat} {x : Int} (hl : bk < w.heap.size) (hx : w.cell? ⟨bk, o, none⟩ = some (.int .i64 x)) : Calls Try.prog 11 #[.int .i64 16, .slice (some ⟨bk, o, none⟩) 1 c] w (SameR (.tuple #[.int .i64 (flagI (x == 0)), .int .i64 0]) w) := by
  go_enter Try.func11, Try.ntmps11
  go_wp2_with fail
  refine (show Calls Try.prog 24 #[.int .i64 16] w (fun e w' => e = .returned (.tuple #[.string ⟨#[66]⟩, .int .i64 2, .int .i64 0, .bool true]) ∧ w = w') from refShape 16).mono ?_
  rintro e w1 ⟨rfl, rfl⟩
  go_wp2_with fail
  refine (bitC (x == 0)).mono ?_
  rintro e w2 ⟨rfl, hb⟩
  go_wp2
  go_ret2
  exact ⟨rfl, hb⟩
set_option maxRecDepth 100000 in
set_option maxHeartbeats 1600000 in
theorem rcalc17f {w : World} {bk o c : Nat} {x y : Int} (hl : bk < w.heap.size) (hx : w.cell? ⟨bk, o, none⟩ = some (.int .i64 x)) (hy : w.cell? ⟨bk, o + 1, none⟩ = some (.int .i64 y)) (hq : (x == 0) = false) : Calls Try.prog 11 #[.int .i64 17, .slice (some ⟨bk, o, none⟩) 3 c] w (SameR (.tuple #[.int .i64 y, .int .i64 0]) w) := by
  go_enter Try.func11, Try.ntmps11
  go_wp2_with fail
  refine (show Calls Try.prog 24 #[.int .i64 17] w (fun e w' => e = .returned (.tuple #[.string ⟨#[66, 73, 73]⟩, .int .i64 1, .int .i64 0, .bool true]) ∧ w = w') from refShape 17).mono ?_
  rintro e w1 ⟨rfl, rfl⟩
  go_wp2
  go_ret2
  exact ⟨rfl, Below.refl _ _⟩
set_option maxRecDepth 100000 in
set_option maxHeartbeats 1600000 in
theorem rcalc17t {w : World} {bk o c : Nat} {x y : Int} (hl : bk < w.heap.size) (hx : w.cell? ⟨bk, o, none⟩ = some (.int .i64 x)) (hy : w.cell? ⟨bk, o + 2, none⟩ = some (.int .i64 y)) (hq : (x == 0) = true) : Calls Try.prog 11 #[.int .i64 17, .slice (some ⟨bk, o, none⟩) 3 c] w (SameR (.tuple #[.int .i64 y, .int .i64 0]) w) := by
  go_enter Try.func11, Try.ntmps11
  go_wp2_with fail
  refine (show Calls Try.prog 24 #[.int .i64 17] w (fun e w' => e = .returned (.tuple #[.string ⟨#[66, 73, 73]⟩, .int .i64 1, .int .i64 0, .bool true]) ∧ w = w') from refShape 17).mono ?_
  rintro e w1 ⟨rfl, rfl⟩
  go_wp2
  go_ret2
  exact ⟨rfl, Below.refl _ _⟩
theorem refCalc {w : World} {op : Int} {v : Value} {xs : List Int} (hv : Ints w v xs) : Calls Try.prog 11 #[.int .i64 op, v] w (CalcR op xs w) := by
  obtain ⟨a0, c0, rfl⟩ := hv.form
  by_cases hbad : op < 3 ∨ 17 < op ∨ xs.length ≠ wantI op
  · have h1 := calc_bad hbad
    unfold CalcR
    rw [h1.1, h1.2]
    by_cases h : op < 1 ∨ 25 < op
    · exact rnone h
    obtain rfl | rfl | rfl | rfl | rfl | rfl | rfl | rfl | rfl | rfl | rfl | rfl | rfl | rfl | rfl | rfl | rfl | rfl | rfl | rfl | rfl | rfl | rfl | rfl | rfl : op = 1 ∨ op = 2 ∨ op = 3 ∨ op = 4 ∨ op = 5 ∨ op = 6 ∨ op = 7 ∨ op = 8 ∨ op = 9 ∨ op = 10 ∨ op = 11 ∨ op = 12 ∨ op = 13 ∨ op = 14 ∨ op = 15 ∨ op = 16 ∨ op = 17 ∨ op = 18 ∨ op = 19 ∨ op = 20 ∨ op = 21 ∨ op = 22 ∨ op = 23 ∨ op = 24 ∨ op = 25 := by omega
    · exact rodd_1
    · exact rodd_2
    · exact rlen_3 (by simpa [wantI] using hbad)
    · exact rlen_4 (by simpa [wantI] using hbad)
    · exact rlen_5 (by simpa [wantI] using hbad)
    · exact rlen_6 (by simpa [wantI] using hbad)
    · exact rlen_7 (by simpa [wantI] using hbad)
    · exact rlen_8 (by simpa [wantI] using hbad)
    · exact rlen_9 (by simpa [wantI] using hbad)
    · exact rlen_10 (by simpa [wantI] using hbad)
    · exact rlen_11 (by simpa [wantI] using hbad)
    · exact rlen_12 (by simpa [wantI] using hbad)
    · exact rlen_13 (by simpa [wantI] using hbad)
    · exact rlen_14 (by simpa [wantI] using hbad)
    · exact rlen_15 (by simpa [wantI] using hbad)
    · exact rlen_16 (by simpa [wantI] using hbad)
    · exact rlen_17 (by simpa [wantI] using hbad)
    · exact rodd_18
    · exact rodd_19
    · exact rodd_20
    · exact rodd_21
    · exact rodd_22
    · exact rodd_23
    · exact rodd_24
    · exact rodd_25
  · have hop : 3 ≤ op ∧ op ≤ 17 := by omega
    have hlen : xs.length = wantI op := Classical.byContradiction fun h => hbad (.inr (.inr h))
    have hw1 : 1 ≤ wantI op := by unfold wantI; split; omega; split <;> omega
    obtain ⟨b, o, c, he, hb, hc⟩ := ints_at hv (by omega)
    cases he
    have hc0 := hc 0 (by omega)
    rw [Nat.add_zero] at hc0
    unfold CalcR calcV calcE
    rw [if_neg hbad, if_neg hbad]
    by_cases h16 : op = 16
    · subst h16
      rw [if_pos rfl, if_pos rfl]
      have hn : xs.length = 1 := hlen
      rw [hn]
      exact rcalc16 hb hc0
    rw [if_neg h16, if_neg h16]
    by_cases h17 : op = 17
    · subst h17
      rw [if_pos rfl, if_pos rfl]
      have hn : xs.length = 3 := hlen
      have hc1 := hc 1 (by omega)
      have hc2 := hc 2 (by omega)
      rw [hn]
      by_cases hx : xs.getD 0 0 = 0
      · rw [if_neg (by simpa using hx)]
        exact rcalc17t hb hc0 hc2 (by rw [hx]; rfl)
      · rw [if_pos hx]
        exact rcalc17f hb hc0 hc1 (by simpa using hx)
    rw [if_neg h17, if_neg h17]
    have hn : xs.length = 2 := by rw [hlen]; unfold wantI; rw [if_neg h16, if_neg h17]
    have hc1 := hc 1 (by omega)
    rw [hn]
    by_cases hz : (op = 11 ∨ op = 12) ∧ xs.getD 1 0 = 0
    · rw [if_pos hz, if_pos hz]
      rw [hz.2] at hc1
      rcases hz.1 with rfl | rfl
      · exact rcalc11z hb hc1
      · exact rcalc12z hb hc1
    · rw [if_neg hz, if_neg hz]
      obtain rfl | rfl | rfl | rfl | rfl | rfl | rfl | rfl | rfl | rfl | rfl | rfl | rfl : op = 3 ∨ op = 4 ∨ op = 5 ∨ op = 6 ∨ op = 7 ∨ op = 8 ∨ op = 9 ∨ op = 10 ∨ op = 11 ∨ op = 12 ∨ op = 13 ∨ op = 14 ∨ op = 15 := by omega
      · exact rcalc3 hb hc0 hc1 trivial
      · exact rcalc4 hb hc0 hc1 trivial
      · exact rcalc5 hb hc0 hc1 trivial
      · exact rcalc6 hb hc0 hc1 trivial
      · exact rcalc7 hb hc0 hc1 trivial
      · exact rcalc8 hb hc0 hc1 trivial
      · exact rcalc9 hb hc0 hc1 trivial
      · exact rcalc10 hb hc0 hc1 trivial
      · exact rcalc11 hb hc0 hc1 (fun h => hz ⟨by omega, h⟩)
      · exact rcalc12 hb hc0 hc1 (fun h => hz ⟨by omega, h⟩)
      · exact rcalc13 hb hc0 hc1
      · exact rcalc14 hb hc0 hc1
      · exact rcalc15 hb hc0 hc1
end Go.Proofs.Ytjmikinbdclfbaa
namespace Go.Proofs.Ytjmikinbdclfbaa
set_option linter.unusedSimpArgs false
set_option linter.unusedVariables false
open Go.RowKit
def InstrVal (W : World) (v : Value) (x : InstrD) : Prop := ∃ u, v = .agg #[.int .i64 x.op, .int .i64 x.id, u, .int .i64 x.n] ∧ Ints W u x.args
theorem InstrVal.below {W W' : World} {v : Value} {x : InstrD} (h : InstrVal W v x) (hb : Below W.heap.size W W') : InstrVal W' v x := let ⟨u, e, k⟩ := h; ⟨u, e, k.below hb⟩
structure RunOk (ar ce : Int) (s : RunS) : Prop where
  al : s.arrays.length = ar.toNat
  cl : s.cells.length = ce.toNat
  len : ∀ a ∈ s.arrays, a.length ≤ 4096
  out : s.out.length ≤ 4096
  chk : s.checks ≤ 200000
structure InsOk (ar ce : Int) (x : InstrD) : Prop where
  shp : (shp x.op).isSome = true
  args : x.args.length = (shp0 x.op).args.length
  n : nOk ar ce (shp0 x.op).n x.n = true
theorem n_array {ar ce n : Int} (h : nOk ar ce 3 n = true) : 0 ≤ n ∧ n < ar := by
  unfold nOk topN at h
  simp at h
  omega
theorem n_cell {ar ce n : Int} (h : nOk ar ce 4 n = true) : 0 ≤ n ∧ n < ce := by
  unfold nOk topN at h
  simp at h
  omega
theorem op_cases {op : Int} (h : (shp op).isSome = true) : op = 1 ∨ op = 2 ∨ op = 18 ∨ op = 19 ∨ op = 21 ∨ op = 20 ∨ op = 22 ∨ op = 23 ∨ op = 24 ∨ op = 25 ∨ (3 ≤ op ∧ op ≤ 17) := by
  refine Classical.byContradiction fun hn => ?_
  unfold shp at h
  rw [if_neg (by omega), if_neg (by omega), if_neg (by omega), if_neg (by omega), if_neg (by omega), if_neg (by omega), if_neg (by omega), if_neg (by omega), if_neg (by omega), if_neg (by omega), if_neg (by omega), if_neg (by omega)] at h
  cases h
theorem shp_few (op : Int) : (shp0 op).args.length ≤ 3 := by
  have key : ∀ (c : Prop) [Decidable c] (a b : Option Shp), (a.getD ⟨0, [], 0⟩).args.length ≤ 3 → (b.getD ⟨0, [], 0⟩).args.length ≤ 3 → ((if c then a else b).getD ⟨0, [], 0⟩).args.length ≤ 3 := by
    intro c _ a b ha hb
    split
    · exact ha
    · exact hb
  unfold shp0 shp
  iterate 12 (refine key _ _ _ (by decide) ?_)
  decide
theorem instr_len {op id n : Int} {args : List Int} {s : RunS} (h : op = 18) {nn : Nat} (hn : n = nn) {a : List Int} (ha : s.arrays[nn]? = some a) : instrS ⟨op, id, args, n⟩ s = .go a.length s := by
  subst h; subst hn
  unfold instrS
  simp [List.getD_eq_getElem?_getD, ha]
theorem elem_over {op n i : Int} {s : RunS} {nn : Nat} (hn : n = nn) {a : List Int} (ha : s.arrays[nn]? = some a) (h : i < 0 ∨ (a.length : Int) ≤ i) : elemS op n i s = .over (wildO op) (lookS op s) := by
  subst hn
  unfold elemS
  rw [if_pos]
  simpa [List.getD_eq_getElem?_getD, ha] using h
theorem elem_go {op n i : Int} {s : RunS} {nn : Nat} (hn : n = nn) {a : List Int} (ha : s.arrays[nn]? = some a) (h : ¬ (i < 0 ∨ (a.length : Int) ≤ i)) : elemS op n i s = .go () (lookS op s) := by
  subst hn
  unfold elemS
  rw [if_neg]
  simpa [List.getD_eq_getElem?_getD, ha] using h
theorem look_arrays (op : Int) (s : RunS) : (lookS op s).arrays = s.arrays := by unfold lookS; split <;> rfl
theorem instr_load {op id n : Int} {args : List Int} {s : RunS} (h : op = 19 ∨ op = 21) {nn : Nat} (hn : n = nn) {a : List Int} (ha : s.arrays[nn]? = some a) {y : Int} (hy : (args.map s.vals).getD 0 0 = y) :
    ((y < 0 ∨ (a.length : Int) ≤ y) → instrS ⟨op, id, args, n⟩ s = .over (wildO op) (lookS op s)) ∧ ∀ (j : Nat) (x : Int), y = j → a[j]? = some x → instrS ⟨op, id, args, n⟩ s = .go x (lookS op s) := by
  have h0 : instrS ⟨op, id, args, n⟩ s = (elemS op n y s).bind fun _ s1 => .go ((s1.arrays.getD n.toNat []).getD y.toNat 0) s1 := by
    unfold instrS
    simp only
    rw [if_neg (by omega), if_neg (by omega), if_pos h, hy]
  constructor
  · intro hw
    rw [h0, elem_over hn ha hw]; rfl
  · intro j x hj hx
    have hjl := (List.getElem?_eq_some_iff.1 hx).1
    rw [h0, elem_go hn ha (by omega)]
    show Res.go (((lookS op s).arrays.getD n.toNat []).getD y.toNat 0) (lookS op s) = _
    rw [look_arrays]
    subst hn; subst hj
    simp [List.getD_eq_getElem?_getD, ha, hx]
theorem modify_at {α : Type} {l : List α} {i : Nat} {x : α} (g : α → α) (h : l[i]? = some x) : l.modify i g = l.set i (g x) := modify_set g h
theorem instr_store {op id n : Int} {args : List Int} {s : RunS} (h : op = 20 ∨ op = 22) {nn : Nat} (hn : n = nn) {a : List Int} (ha : s.arrays[nn]? = some a) {y z : Int} (hy : (args.map s.vals).getD 0 0 = y) (hz : (args.map s.vals).getD 1 0 = z) :
    ((y < 0 ∨ (a.length : Int) ≤ y) → instrS ⟨op, id, args, n⟩ s = .over (wildO op) (lookS op s)) ∧ ∀ (j : Nat), y = j → j < a.length → instrS ⟨op, id, args, n⟩ s = .go 0 { lookS op s with arrays := s.arrays.set nn (a.set j z) } := by
  have h0 : instrS ⟨op, id, args, n⟩ s = (elemS op n y s).bind fun _ s1 => .go 0 { s1 with arrays := s1.arrays.modify n.toNat fun a => a.set y.toNat z } := by
    unfold instrS
    simp only
    rw [if_neg (by omega), if_neg (by omega), if_neg (by omega), if_pos h, hy, hz]
  constructor
  · intro hw
    rw [h0, elem_over hn ha hw]; rfl
  · intro j hj hx
    rw [h0, elem_go hn ha (by omega)]
    show Res.go 0 { lookS op s with arrays := (lookS op s).arrays.modify n.toNat fun a => a.set y.toNat z } = _
    rw [look_arrays]
    subst hn; subst hj
    rw [Int.toNat_natCast, Int.toNat_natCast, modify_at _ ha]
theorem instr_out {id n : Int} {args : List Int} {s : RunS} {y : Int} (hy : (args.map s.vals).getD 0 0 = y) : instrS ⟨23, id, args, n⟩ s = if s.out.length = 4096 then .over ⟨4, 0, 0⟩ s else .go 0 { s with out := s.out ++ [y] } := by
  unfold instrS
  simp only
  rw [if_neg (by omega), if_neg (by omega), if_neg (by omega), if_neg (by omega), if_pos trivial, hy]
theorem instr_get {id n : Int} {args : List Int} {s : RunS} {nn : Nat} (hn : n = nn) {z : Int} (hz : s.cells[nn]? = some z) : instrS ⟨24, id, args, n⟩ s = .go z s := by
  subst hn
  unfold instrS
  simp [List.getD_eq_getElem?_getD, hz]
theorem instr_set {id n : Int} {args : List Int} {s : RunS} {nn : Nat} (hn : n = nn) {y : Int} (hy : (args.map s.vals).getD 0 0 = y) : instrS ⟨25, id, args, n⟩ s = .go 0 { s with cells := s.cells.set nn y } := by
  subst hn
  unfold instrS
  simp only
  rw [if_neg (by omega), if_neg (by omega), if_neg (by omega), if_neg (by omega), if_neg (by omega), if_neg (by omega), if_pos trivial, hy]
  simp
theorem instr_calc {op id n : Int} {args : List Int} {s : RunS} (h : 3 ≤ op ∧ op ≤ 17) : instrS ⟨op, id, args, n⟩ s = if calcE op (args.map s.vals) ≠ 0 then .over ⟨2, 0, -1⟩ s else .go (calcV op (args.map s.vals)) s := by
  unfold instrS
  simp only
  rw [if_neg (by omega), if_neg (by omega), if_neg (by omega), if_neg (by omega), if_neg (by omega), if_neg (by omega), if_neg (by omega)]
end Go.Proofs.Ytjmikinbdclfbaa
namespace Go.Proofs.Ytjmikinbdclfbaa
set_option linter.unusedSimpArgs false
set_option linter.unusedVariables false
open Go.RowKit
theorem gives_osnoc {α : Type} {R : World → Foot → List Value → α → Prop} (hR : Nice R) {P : Program} {w : World} {o : Oper} {a : Act} (s x : Operand) (t e : TypeId)
    (ho : o.op = .call { callee := .builtin .append, args := #[s, x], argTypes := #[t, t] }) {z : Value} {size bytes : Nat} (he : Elem P t e z size bytes)
    {v : Value} {B : Nat} {ds : List Value} (hs : a.eval s = v) (hx : a.eval x = .slice (some ⟨B, 0, none⟩) 1 1) {bs : List Nat} {base : Nat} {S Fn : Foot} {xs : List α} {y : α} {n : Nat} (hn : xs.length = n)
    (H : Holds bs base w S (fun W => OSl R e size W S v xs)) (hB : Box w B ds.toArray) (hds : ds.length = size) (hel : R w Fn ds y) (hF : Fn.off S) (hFb : Fresh base Fn) (hbs : ∀ b ∈ bs, b < base) (hbase : base ≤ w.heap.size)
    (h1 : ∀ u ∈ ds, u.oneCell' = true) (hlen : n + 1 ≤ 17592186044416) (hbytes : (n + 1) * bytes ≤ 140737488355328) {XF : Nat → Foot} {i lim : Nat} (hFl : ∀ k, Fn k → lim ≤ k) (hl : lim ≤ w.heap.size) (hX : ∀ k, S k → XF i k) :
    ∃ u w'', (execOp a.eval o).run P w = .ok (.value u) w'' ∧ (∃ S', Holds bs base w'' S' (fun W => OSl R e size W S' u (xs ++ [y])) ∧ (∀ k, S' k → S k ∨ lim ≤ k) ∧ ∃ g cap, u = .slice (some ⟨g, 0, none⟩) (n + 1) cap) ∧ Four.Step XF (fun _ => True) i w w'' := by
  obtain ⟨v', w', S', q0, q1, q2, q3, q4⟩ := exec_osnoc hR s x t e ho he hs hx hn H hB hds hel hF hFb hbs hbase h1 hlen hbytes
  refine ⟨v', w', q0, ⟨S', q1, fun k hk => ?_, q4⟩, q3.mono fun k _ hk => hX k hk, fun h => h⟩
  rcases q2 k hk with h | h | h
  · exact .inl h
  · exact .inr (hFl k h)
  · exact .inr (by omega)
end Go.Proofs.Ytjmikinbdclfbaa
namespace Go.Proofs.Ytjmikinbdclfbaa
set_option linter.unusedSimpArgs false
set_option linter.unusedVariables false
open Go.RowKit
theorem Off.frozen {S : Foot} {W W' : World} (h : Off S W W') {b o : Nat} (hl : b < W.heap.size) (hn : ¬ S b) : W'.frozen? ⟨b, o, none⟩ = W.frozen? ⟨b, o, none⟩ := World.frozen?_of_block (w := W) (a := ⟨b, o, none⟩) (h.block b hl hn)
theorem wpList_iapp {w : World} {ops : Array Oper} {rest : List Oper} {o : Oper} {a : Act} {Q : Exit → Act → World → Prop} (hgd : o.guard = none) (s x : Operand)
    (ho : o.op = .call { callee := .builtin .append, args := #[s, x], argTypes := #[22, 22] }) {v : Value} {B : Nat} {y : Int} (hs : a.eval s = v) (hx : a.eval x = .slice (some ⟨B, 0, none⟩) 1 1) {S : Foot} {xs : List Int} {n : Nat} (hn : xs.length = n)
    (H : OInts w S v xs) (hB : Box w B #[.int .i64 y]) (hy : In64 y) (hlen : n + 1 ≤ 100000)
    (hK : ∀ g cap w', OInts w' (Foot.one g) (.slice (some ⟨g, 0, none⟩) (n + 1) cap) (xs ++ [y]) → (S g ∨ w.heap.size ≤ g) → Off S w w' → wpList Try.prog ops Q rest (a.put o.dst (.slice (some ⟨g, 0, none⟩) (n + 1) cap)) w') : wpList Try.prog ops Q (o :: rest) a w := by
  refine wpList_oapp (P := Try.prog) hgd s x 22 3 ho elInt hs hx H.1 (row_box (n := 1) (size := 1) (ds := [.int .i64 y]) hB rfl (by omega)) (by intro u hu; simp at hu; subst hu; rfl) (by omega) (by omega) fun v' w' G' r1 r2 r3 => ?_
  have hO : OInts w' G' v' (xs ++ [y]) := by
    refine ⟨?_, fun z hz => ?_⟩
    · rw [List.length_append, List.map_append]; exact r1
    · rcases List.mem_append.1 hz with h | h
      · exact H.2 z h
      · simp at h; subst h; exact hy
  obtain ⟨g, cap, rfl, hg, -⟩ := hO.1.addr (by simp)
  have hl : (xs ++ [y]).length = n + 1 := by simp [hn]
  rw [hl] at hO ⊢
  obtain ⟨k1, k2⟩ := hO.narrow (by omega)
  exact hK g cap w' k1 (r2 g k2) r3
end Go.Proofs.Ytjmikinbdclfbaa
