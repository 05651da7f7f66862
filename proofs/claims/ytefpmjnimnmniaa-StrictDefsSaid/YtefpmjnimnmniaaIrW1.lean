/- ir.Args; the checker's size. -/
import Derived.Test.YtefpmjnimnmniaaIrSpec
namespace Go.Proofs.Ytefpmjnimnmniaa
set_option linter.unusedSimpArgs false
set_option linter.unusedVariables false
open Go.RowKit

theorem below_drewN {B : Nat} {a w : World} (h : Below B a w) (n : Nat) : Below B a (w.drewN n) := ⟨h.os, h.tape, h.output, h.size, h.block⟩

def ArgsR (op : Int) (w : World) (e : Ending) (w' : World) : Prop := ∃ u, e = .returned (.tuple #[.int .i64 (shp0 op).result, u, .bool (shp op).isSome]) ∧ New 3 w w' u (shp0 op).args ∧ Below w.heap.size w w'

set_option maxHeartbeats 1600000 in
theorem irArgs {w : World} (op : Int) : Calls Try.prog 23 #[.int .i64 op] w (ArgsR op w) := by
  go_enter Try.func23, Try.ntmps23
  go_wp2_with fail
  refine (shapeOf op).mono ?_
  rintro e w1 ⟨u, rfl, hu, hb1⟩
  obtain ⟨ua, uc, rfl⟩ := hu.ints.form
  have HU := Lib.hid hu
  have HB := Lib.hid hb1
  clear hu hb1
  obtain ⟨r, hr⟩ : ∃ r, r = (shp0 op).result := ⟨_, rfl⟩
  obtain ⟨k, hk⟩ : ∃ k, k = (shp0 op).n := ⟨_, rfl⟩
  obtain ⟨l, hl⟩ : ∃ l, l = (shp0 op).args.length := ⟨_, rfl⟩
  obtain ⟨ok, ho⟩ : ∃ ok, ok = (shp op).isSome := ⟨_, rfl⟩
  simp only [← hr, ← hk, ← hl, ← ho]
  have HR := Lib.hid hr
  have HL := Lib.hid hl
  have HO := Lib.hid ho
  rw [← hl] at HU
  clear hr hk hl ho
  go_upto_region 2 with (fail)
  have B5 : Hid (Box (w1.alloc (.cells #[.int .i64 r, .slice ua l uc, .int .i64 k] 91)) (w1.heap.size) #[.int .i64 r, .slice ua l uc, .int .i64 k]) := Lib.hid (by simpa using (Box.new w1 #[.int .i64 r, .slice ua l uc, .int .i64 k] 91))
  have HW : Hid (Below w1.heap.size w1 (w1.alloc (.cells #[.int .i64 r, .slice ua l uc, .int .i64 k] 91))) := Lib.hid ((Below.refl _ _).alloc (Nat.le_refl _) _)
  generalize (w1.alloc (.cells #[.int .i64 r, .slice ua l uc, .int .i64 k] 91)) = wv at *
  obtain ⟨lB5, cB5, fB5⟩ := B5.out
  go_quiet (fail)
  go_wp2
  exact bodyPost_ret (v := .tuple #[.int .i64 r, .slice ua l uc, .bool ok]) (by simp [results, Try.results23, go_sem, *]) rfl
    ⟨_, by rw [HR.out, HO.out], HU.out.later (below_drewN HW.out _), HB.out.trans ((below_drewN HW.out _).mono HB.out.size)⟩

theorem sizeB_le {W : World} {v : Value} {bs : List BlockD} (h : SliceOf BlockR 6 W v bs) : ∀ b ∈ bs, 1 ≤ sizeB b ∧ sizeB b ≤ 35184372088833 := by
  intro b hb
  obtain ⟨cs, _, h2⟩ := h
  obtain ⟨j, hj, rfl⟩ := List.getElem_of_mem hb
  obtain ⟨v, u, t, _, h3, h4, _⟩ := h2 j _ (List.getElem?_eq_getElem hj)
  have := h3.le
  have := h4.le
  unfold sizeB; omega
theorem sum_bound (l : List Int) (a b : Int) (h : ∀ x ∈ l, a ≤ x ∧ x ≤ b) : a * l.length ≤ l.sum ∧ l.sum ≤ b * l.length := by
  induction l with
  | nil => simp
  | cons x l ih =>
    have h1 := h x (by simp)
    have h2 := ih fun y hy => h y (by simp [hy])
    simp only [List.sum_cons, List.length_cons, Int.natCast_add, Int.natCast_one, Int.mul_add, Int.mul_one]
    omega
theorem size_bound {W : World} {v : Value} {bs : List BlockD} (h : SliceOf BlockR 6 W v bs) (j : Nat) (hj : j ≤ 512) : 0 ≤ ((bs.take j).map sizeB).sum ∧ ((bs.take j).map sizeB).sum ≤ 18014398509482496 := by
  have h1 := sum_bound ((bs.take j).map sizeB) 1 35184372088833 (fun x hx => by
    obtain ⟨b, hb, rfl⟩ := List.mem_map.1 hx
    exact sizeB_le h b (List.mem_of_mem_take hb))
  rw [List.length_map, List.length_take] at h1
  omega
theorem sum_snoc (bs : List BlockD) (j : Nat) (x : BlockD) (h : bs[j]? = some x) : ((bs.take (j + 1)).map sizeB).sum = ((bs.take j).map sizeB).sum + sizeB x := by
  rw [List.take_add_one, h, Option.toList_some, List.map_append, List.sum_append]; simp

set_option maxHeartbeats 3200000 in
theorem chkSize {w : World} {bc : Nat} {vb : Value} {bs : List BlockD} (h3 : w.cell? ⟨bc, 3, none⟩ = some vb) (hB : SliceOf BlockR 6 w vb bs) (hn : bs.length ≤ 512) :
    Calls Try.prog 86 #[.pointer (some ⟨bc, 0, none⟩)] w fun e w' => e = .returned (.int .i64 ((bs.map sizeB).sum)) ∧ Below w.heap.size w w' := by
  have HSZ := Lib.hid hB
  obtain ⟨a, cap, b, off, rfl, hc, hm, hl, ha, hx⟩ := blocks_parts hB
  have HA := Lib.hid ha
  have HX := Lib.hid hx
  clear ha hx hB hl
  obtain ⟨n, hnn⟩ : ∃ n, n = bs.length := ⟨_, rfl⟩
  rw [← hnn] at h3 hc hn HA
  have HN := Lib.hid hnn
  clear hnn
  go_enter Try.func86, Try.ntmps86
  go_wp2
  go_loopw [3, 12] (fun s i wr => ∃ j : Nat, j ≤ n ∧ i = .int .i64 j ∧ s = .int .i64 ((bs.take j).map sizeB).sum ∧ Below w.heap.size w wr) (fun _ i _ => n - (intOf i).toNat)
  case atStart => exact ⟨0, Nat.zero_le _, rfl, rfl, Below.refl _ _⟩
  case round =>
    obtain ⟨j, hj, rfl, rfl, hW⟩ := hrel
    have HW := Lib.hid hW
    clear hW
    by_cases hlt : j < n
    · have hne : 0 < n := by omega
      obtain ⟨rfl, hbw⟩ := HA.out hne
      have hjx : bs[j]? = some bs[j] := List.getElem?_eq_getElem (by have := HN.out; omega)
      obtain ⟨x, hxe⟩ : ∃ x, x = bs[j]'(by have := HN.out; omega) := ⟨_, rfl⟩
      rw [← hxe] at hjx
      clear hxe
      obtain ⟨ap, ai, at_, cp, ci, ct, hC⟩ := HX.out j x hjx
      obtain ⟨c0, c1, c2, c3, c4, c5, h6, h7, h8, h9, h10, h11⟩ := hC.below HW.out hbw
      have hs0 := size_bound HSZ.out j (by omega)
      have hl1 := h6.le
      have hl2 := h7.le
      have HSN := Lib.hid (sum_snoc bs j x hjx)
      have hsx : sizeB x = x.phis.length + x.code.length + 1 := rfl
      rw [hsx] at HSN
      clear h6 h7 h8 h9 h10 h11 hC hjx hsx
      generalize ((bs.take j).map sizeB).sum = s at *
      go_wp2
      go_roundw
      case rel => exact ⟨j + 1, hlt, by go_num, by rw [HSN.out], HW.out.alloc HW.out.size _⟩
      case measure => simp [intOf]; omega
    · obtain rfl : j = n := by omega
      go_wp2
      go_ret
      rw [List.take_of_length_le (by have := HN.out; omega)]
      exact ⟨rfl, HW.out⟩
end Go.Proofs.Ytefpmjnimnmniaa
