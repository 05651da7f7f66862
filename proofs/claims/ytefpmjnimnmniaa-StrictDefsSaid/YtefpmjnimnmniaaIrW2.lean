/- The checker's define as a step; the length of a map; slices.IndexFunc, ContainsFunc at whatever function value. -/
import Derived.Test.YtefpmjnimnmniaaIrW1
import Derived.Shelf.Abstract
namespace Go.Proofs.Ytefpmjnimnmniaa
set_option linter.unusedSimpArgs false
set_option linter.unusedVariables false
open Go.RowKit

theorem chkBlk {w : World} {bc bm : Nat} {vp : Value} {ab : Option Addr} {nb cb : Nat} {ar ce : Int} (hb : Box w bc (chk vp (.slice ab nb cb) ar ce bm)) (b : Int) (r : Bool) (hr : numB nb b = r) :
    Calls Try.prog 132 #[.pointer (some ⟨bc, 0, none⟩), .int .i64 b] w fun e w' => e = .returned (.bool r) ∧ w = w' :=
  (chkBlock hb b).mono fun e w' ⟨he, hw⟩ => ⟨by rw [he, ← hr]; rfl, hw.symm⟩

/-- What a step of the checker leaves: whether it went well, and then the types. -/
def StepR (r : Option (List (Int × Int))) (bm : Nat) (w : World) (e : Ending) (w' : World) : Prop := e = .returned (.bool r.isSome) ∧ (∀ T, r = some T → IMap w' bm (encT T)) ∧ Turn [bm] w w'
theorem StepR.no {r : Option (List (Int × Int))} {bm : Nat} {w w' : World} (hr : r = none) (ht : Turn [bm] w w') : StepR r bm w (.returned (.bool false)) w' := by subst hr; exact ⟨rfl, ⟨fun T h => (by cases h), ht⟩⟩
theorem StepR.yes {r : Option (List (Int × Int))} {T : List (Int × Int)} {bm : Nat} {w w' : World} (hr : r = some T) (hm : IMap w' bm (encT T)) (ht : Turn [bm] w w') : StepR r bm w (.returned (.bool true)) w' := by
  subst hr; exact ⟨rfl, ⟨fun T h => (by cases h; exact hm), ht⟩⟩
theorem chkDef {w : World} {bc bm : Nat} {ap : Option Addr} {np cp : Nat} {vb : Value} {ar ce : Int} {T : List (Int × Int)} (hb : Box w bc (chk (.slice ap np cp) vb ar ce bm)) (hm : IMap w bm (encT T)) (id t : Int) :
    Calls Try.prog 133 #[.pointer (some ⟨bc, 0, none⟩), .int .i64 id, .int .i64 t] w (StepR (defOne np T id t) bm w) :=
  (chkDefine hb hm id t).mono fun e w' ⟨he, hi, ht⟩ => by
    rw [fresh_enc np T id t] at he hi
    refine ⟨he, fun T' h => ?_, ht⟩
    rw [h] at hi
    unfold defOne at h
    split at h
    · rename_i h2
      cases h
      have h3 : tyOf T id = none := by
        simp only [Bool.and_eq_true, Bool.not_eq_true', Option.isSome_eq_false_iff, Option.isNone_iff_eq_none] at h2
        exact h2.1.1
      simpa [mput_enc h3] using hi
    · cases h

section
variable {P : Program} {w : World} {ops : Array Oper} {rest : List Oper} {o : Oper} {a : Act} {Q : Exit → Act → World → Prop}
theorem wpList_maplen (hg : o.guard = none) (m : Operand) (t : TypeId) (hop : o.op = Op.call { callee := Callee.builtin Builtin.len, args := #[m], argTypes := #[t] }) {k e : TypeId} (ht : P.underlying t = some (.map k e))
    {b : Nat} {mm : List (Int × Value)} (hm : a.eval m = .map (some b)) (h : IMap w b mm) (hK : wpList P ops Q rest (a.put o.dst (.int .i64 mm.length)) w) : wpList P ops Q (o :: rest) a w := by
  refine wpList_plain hg fun K' hK' => ?_
  unfold Oper.wp
  simp [execOp, hop, resolve, invoke, builtin, hm, h.len ht o.type, Result.andThen]
  exact hK' _ _ hK
end

/-- A function value that answers p and only makes memory. -/
def Asks (k : FuncId) (cap : Array Value) (w : World) (xs : List Int) (p : Int → Bool) : Prop := ∀ W x, Below w.heap.size w W → x ∈ xs → Calls Try.prog k (#[.int .i64 x] ++ cap) W fun e W' => e = .returned (.bool (p x)) ∧ Below W.heap.size W W'
def IdxR (xs : List Int) (p : Int → Bool) (w : World) (e : Ending) (w' : World) : Prop := ∃ r : Int, e = .returned (.int .i64 r) ∧ decide (0 ≤ r) = xs.any p ∧ Below w.heap.size w w'
set_option maxHeartbeats 1600000 in
theorem indexFunc {w : World} {v : Value} {xs : List Int} (hs : Ints w v xs) (k : FuncId) (cap : Array Value) (p : Int → Bool) (eg : Enters Try.prog k) (hf : Asks k cap w xs p) :
    Calls Try.prog 144 #[v, .func (.func k) #[] cap] w (IdxR xs p w) := by
  obtain ⟨a, c, b, o, rfl, hc, hm, ha, hx⟩ := hs.parts
  have HA := Lib.hid ha
  have HX := Lib.hid hx
  have HF := Lib.hid hf
  clear ha hx hf hs
  obtain ⟨n, hnn⟩ : ∃ n, n = xs.length := ⟨_, rfl⟩
  rw [← hnn] at hc HA HX ⊢
  have HN := Lib.hid hnn
  clear hnn
  go_enter Try.func144, Try.ntmps144
  go_wp2
  go_loopw [8] (fun i wr => ∃ j : Nat, j ≤ n ∧ i = .int .i64 j ∧ (xs.take j).any p = false ∧ Below w.heap.size w wr) (fun i _ => n - (intOf i).toNat)
  case atStart => exact ⟨0, Nat.zero_le _, rfl, by simp, Below.refl _ _⟩
  case round =>
    obtain ⟨j, hj, rfl, hp, hW⟩ := hrel
    have HP := Lib.hid hp
    have HW := Lib.hid hW
    clear hW hp
    by_cases hlt : j < n
    · have hne : 0 < n := by omega
      obtain ⟨rfl, hbw⟩ := HA.out hne
      have hjx : xs[j]? = some (xs.getD j 0) := by rw [List.getD_eq_getElem?_getD, List.getElem?_eq_getElem (by have := HN.out; omega)]; rfl
      have hmem := List.mem_of_getElem? hjx
      have h0 := (HW.out.cell hbw).trans (HX.out j hlt)
      generalize xs.getD j 0 = y at *
      have HF1 := Lib.hid (HF.out wr y HW.out hmem)
      have HSN := Lib.hid (show (xs.take (j + 1)).any p = ((xs.take j).any p || p y) by rw [List.take_add_one, hjx]; simp)
      have HM := Lib.hid hmem
      clear hjx hmem
      cases hpy : p y
      · have HPY := Lib.hid hpy
        rw [hpy] at HF1
        clear hpy
        have eg1 : ∀ (args : Array Value) (w : World), (callFunc k args).run Try.prog w = .ok (.enter k args) w := eg
        go_wp2_with (go_at_fn k; refine HF1.out.mono ?_; rintro e w2 ⟨rfl, hb2⟩; have HB := Lib.hid hb2; clear hb2)
        go_roundw
        case rel => exact ⟨j + 1, hlt, by go_num, by rw [HSN.out, HP.out, HPY.out]; rfl, HW.out.trans (HB.out.mono HW.out.size)⟩
        case measure => simp [intOf]; omega
      · have HPY := Lib.hid hpy
        rw [hpy] at HF1
        clear hpy
        have eg1 : ∀ (args : Array Value) (w : World), (callFunc k args).run Try.prog w = .ok (.enter k args) w := eg
        go_wp2_with (go_at_fn k; refine HF1.out.mono ?_; rintro e w2 ⟨rfl, hb2⟩; have HB := Lib.hid hb2; clear hb2)
        go_ret
        exact ⟨_, rfl, by rw [show xs.any p = true from List.any_eq_true.2 ⟨_, HM.out, HPY.out⟩]; simp, HW.out.trans (HB.out.mono HW.out.size)⟩
    · obtain rfl : j = n := by omega
      have HT : Hid (xs.any p = false) := Lib.hid (by have := HP.out; rwa [List.take_of_length_le (by have := HN.out; omega)] at this)
      go_wp2
      go_ret
      exact ⟨_, rfl, by rw [HT.out]; rfl, HW.out⟩
set_option maxHeartbeats 1600000 in
theorem containsFunc {w : World} {v : Value} {xs : List Int} (hs : Ints w v xs) (k : FuncId) (cap : Array Value) (p : Int → Bool) (eg : Enters Try.prog k) (hf : Asks k cap w xs p) :
    Calls Try.prog 128 #[v, .func (.func k) #[] cap] w fun e w' => e = .returned (.bool (xs.any p)) ∧ Below w.heap.size w w' := by
  have HS := Lib.hid hs
  have HF := Lib.hid hf
  clear hs hf
  go_enter Try.func128, Try.ntmps128
  go_wp2_with fail
  refine (indexFunc HS.out k cap p eg HF.out).mono ?_
  rintro e w1 ⟨r, rfl, hr, hb⟩
  have HR := Lib.hid hr
  have HB := Lib.hid hb
  clear hr hb
  go_wp2
  go_ret
  rw [HR.out]
  exact ⟨rfl, HB.out⟩
end Go.Proofs.Ytefpmjnimnmniaa
