/- The checker's small methods: block, define. -/
import Derived.Test.YtefpmjnimnmniaaIr
import Derived.Test.YtefpmjnimnmniaaMap
namespace Go.Proofs.Ytefpmjnimnmniaa
set_option linter.unusedSimpArgs false
set_option linter.unusedVariables false
open Go.RowKit

/-- The checker's cells. -/
def chk (vp vb : Value) (ar ce : Int) (bm : Nat) : Array Value := #[vp, .int .i64 ar, .int .i64 ce, vb, .map (some bm)]

set_option maxHeartbeats 1600000 in
theorem chkBlock {w : World} {bc bm : Nat} {vp : Value} {ab : Option Addr} {nb cb : Nat} {ar ce : Int} (hb : Box w bc (chk vp (.slice ab nb cb) ar ce bm)) (b : Int) :
    Calls Try.prog 132 #[.pointer (some ⟨bc, 0, none⟩), .int .i64 b] w fun e w' => e = .returned (.bool (decide (0 ≤ b) && decide (b < nb))) ∧ w' = w := by
  have c3 := hb.at 3 (v := .slice ab nb cb) rfl
  clear hb
  cases h1 : decide (0 ≤ b) <;> cases h2 : decide (b < (nb : Int))
  all_goals
    go_enter Try.func132, Try.ntmps132
    go_wp2
    go_ret
    exact ⟨rfl, rfl⟩

theorem zeroInt (w : World) : (zeroValue 3).run Try.prog w = .ok (.int .i64 0) w := by kernel_rfl

/-- May a value be made anew? -/
def fresh (np : Nat) (m : List (Int × Value)) (id : Int) : Bool := !(mget m id).isSome && !decide (id < np) && decide (id < 1048576)
/-- What 'define' leaves. -/
def DefR (np : Nat) (m : List (Int × Value)) (id t : Int) (bm : Nat) (w : World) (e : Ending) (w' : World) : Prop :=
  e = .returned (.bool (fresh np m id)) ∧ IMap w' bm (if fresh np m id then mput m id (.int .i64 t) else m) ∧ Turn [bm] w w'

set_option maxHeartbeats 3200000 in
theorem chkDefine {w : World} {bc bm : Nat} {ap : Option Addr} {np cp : Nat} {vb : Value} {ar ce : Int} {m : List (Int × Value)} (hb : Box w bc (chk (.slice ap np cp) vb ar ce bm)) (hm : IMap w bm m) (id t : Int) :
    Calls Try.prog 133 #[.pointer (some ⟨bc, 0, none⟩), .int .i64 id, .int .i64 t] w (DefR np m id t bm w) := by
  have c0 := hb.at 0 (v := .slice ap np cp) rfl
  have c4 := hb.at 4 (v := .map (some bm)) rfl
  have HM := Lib.hid hm
  clear hb hm
  cases h1 : (mget m id).isSome <;> cases h2 : decide (id < (np : Int)) <;> cases h3 : decide (1048576 ≤ id)
  all_goals
    have HF := Lib.hid (show fresh np m id = _ by unfold fresh; rw [h1, h2, show decide (id < 1048576) = !decide (1048576 ≤ id) by rw [Bool.eq_iff_iff]; simp, h3])
    have H1 := Lib.hid h1
    clear h1
    go_enter Try.func133, Try.ntmps133
    go_wp2_with (first
      | (at_lookup; refine wpList_look (q := .i64) (z := .int .i64 0) (b := bm) (mm := m) (y := id) rfl _ _ _ rfl Try.underlying124 Try.underlying3 (zeroInt _) rfl HM.out rfl ?_; rw [H1.out]; generalize (mget m id).getD _ = gv)
      | (at_mapUpdate; refine wpList_put (q := .i64) (b := bm) (mm := m) (y := id) rfl _ _ _ _ (.inl rfl) Try.underlying124 Try.underlying3 rfl HM.out rfl ?_; intro w2 hm2 hz2 ht2; have HP := Lib.hid hm2; have HT := Lib.hid ht2; clear hm2 hz2 ht2))
    go_ret
    first
      | exact ⟨ret_bool HF.out.symm, by rw [HF.out]; exact HP.out, HT.out⟩
      | exact ⟨ret_bool HF.out.symm, by rw [HF.out]; exact HM.out, Turn.refl _ _⟩
end Go.Proofs.Ytefpmjnimnmniaa
