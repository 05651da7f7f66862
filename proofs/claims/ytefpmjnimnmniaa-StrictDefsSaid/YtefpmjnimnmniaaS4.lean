/- strict: the simplest function is strict (what awake asks). -/
import Derived.Test.YtefpmjnimnmniaaS3
namespace Go.Proofs.Ytefpmjnimnmniaa
set_option linter.unusedSimpArgs false
set_option linter.unusedVariables false
open Go.RowKit

section
variable {P : Program} {w : World}
theorem IMap.lookup0 {t k e : TypeId} {q : IntKind} {b : Nat} {m : List (Int × Value)} (h : IMap w b m) (ht : P.underlying t = some (.map k e)) (hk : P.underlying k = some (.int q)) {z : Value} (hz : (zeroValue e).run P w = .ok z w) (x : Int) :
    (Instr.lookup t (.map (some b)) (.int .i64 x) false).run P w = .ok ((mget m x).getD z) w := by
  obtain ⟨es, c, hh, hm, _⟩ := h.ex
  have hf := findKey_run (P := P) (w := w) hk x hm
  unfold Instr.lookup
  have hg : (Sem.getObj b Sem.pure : Sem Obj).run P w = .ok (.map es c) w := by simp [Sem.run, hh]
  rw [mget_idx]
  simp only [Sem.run_bind, run_underlying ht, Result.andThen, getObj, hg, Sem.run_pure, checkKey_int hk, hf]
  cases hi : (m.findIdx? (fun p => p.1 == x)) with
  | none => simp [hz, Result.andThen, Sem.run_pure]
  | some j =>
    simp only [Option.bind_some]
    cases hj : m[j]? with
    | none => simp [hz, Result.andThen, Sem.run_pure]
    | some p => simp [Result.andThen, Sem.run_pure]
variable {ops : Array Oper} {rest : List Oper} {o : Oper} {a : Act} {Q : Exit → Act → World → Prop}
theorem wpList_look0 (hg : o.guard = none) (m x : Operand) (t : TypeId) (hop : o.op = Op.lookup t m x false) {k e : TypeId} {q : IntKind} (ht : P.underlying t = some (.map k e)) (hk : P.underlying k = some (.int q)) {z : Value} (hz : (zeroValue e).run P w = .ok z w)
    {b : Nat} {mm : List (Int × Value)} (hm : a.eval m = .map (some b)) (h : IMap w b mm) {y : Int} (hx : a.eval x = .int .i64 y) (hK : wpList P ops Q rest (a.put o.dst ((mget mm y).getD z)) w) : wpList P ops Q (o :: rest) a w := by
  refine wpList_plain hg fun K' hK' => ?_
  unfold Oper.wp
  simp [execOp, hop, hm, hx, h.lookup0 ht hk hz y, Result.andThen]
  exact hK' _ _ hK
end

set_option maxHeartbeats 1600000 in
theorem idxNoneP {w : World} {k : Value} : Calls Try.prog 141 #[.slice none 0 0, k] w fun e w' => e = .returned (.int .i64 (-1)) ∧ w = w' := by
  go_enter Try.func141, Try.ntmps141
  go_wp2_with fail
  go_loopw [8] (fun i wr => i = .int .i64 0 ∧ wr = w) (fun _ _ => 0)
  case atStart => exact ⟨rfl, rfl⟩
  case round =>
    obtain ⟨rfl, rfl⟩ := hrel
    go_wp2
    go_ret
    exact ⟨rfl, rfl⟩
set_option maxHeartbeats 1600000 in
theorem idxNoneI {w : World} {k : Value} : Calls Try.prog 144 #[.slice none 0 0, k] w fun e w' => e = .returned (.int .i64 (-1)) ∧ w = w' := by
  go_enter Try.func144, Try.ntmps144
  go_wp2_with fail
  go_loopw [8] (fun i wr => i = .int .i64 0 ∧ wr = w) (fun _ _ => 0)
  case atStart => exact ⟨rfl, rfl⟩
  case round =>
    obtain ⟨rfl, rfl⟩ := hrel
    go_wp2
    go_ret
    exact ⟨rfl, rfl⟩
set_option maxHeartbeats 1600000 in
theorem contNoneP {w : World} {k : Value} : Calls Try.prog 123 #[.slice none 0 0, k] w fun e w' => e = .returned (.bool false) ∧ w = w' := by
  go_enter Try.func123, Try.ntmps123
  go_wp2_with fail
  refine idxNoneP.mono ?_
  rintro e w2 ⟨rfl, rfl⟩
  go_wp2
  go_ret
  exact ⟨rfl, rfl⟩
set_option maxHeartbeats 1600000 in
theorem contNoneI {w : World} {k : Value} : Calls Try.prog 128 #[.slice none 0 0, k] w fun e w' => e = .returned (.bool false) ∧ w = w' := by
  go_enter Try.func128, Try.ntmps128
  go_wp2_with fail
  refine idxNoneI.mono ?_
  rintro e w2 ⟨rfl, rfl⟩
  go_wp2
  go_ret
  exact ⟨rfl, rfl⟩
set_option maxHeartbeats 3200000 in
theorem aheadS {w : World} {bs bm : Nat} {A1 A2 : Value} {m : List (Int × Value)} (hS : Box w bs #[A1, A2, .map (some bm)]) (hm : IMap w bm m) (hg : mget m 0 = some (.agg #[.int .i64 0, .int .i64 0])) :
    Calls Try.prog 130 #[.pointer (some ⟨bs, 0, none⟩), .int .i64 0, .int .i64 0, .int .i64 1] w fun e w' => e = .returned (.bool true) ∧ Below w.heap.size w w' := by
  have HI := Lib.hid hm
  have HG := Lib.hid hg
  obtain ⟨l1, c1, f1⟩ := hS
  clear hm hg
  go_enter Try.func130, Try.ntmps130
  go_wp2_with (at_lookup; refine wpList_look0 (q := .i64) (z := .agg #[.int .i64 0, .int .i64 0]) (b := bm) (mm := m) (y := 0) rfl _ _ _ rfl Try.underlying142 Try.underlying3 (zeroDef _) rfl HI.out rfl ?_; rw [HG.out]; simp only [Option.getD_some])
  have HW := Lib.hid ((Below.refl w.heap.size w).alloc (Nat.le_refl _) (.cells #[.int .i64 0, .int .i64 0] 140))
  go_ret
  exact ⟨rfl, HW.out⟩
end Go.Proofs.Ytefpmjnimnmniaa
