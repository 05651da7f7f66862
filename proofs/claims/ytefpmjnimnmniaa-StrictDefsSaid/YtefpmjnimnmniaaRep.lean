/- slices.Repeat of one number. -/
import Derived.Test.YtefpmjnimnmniaaChk
import Derived.Laws.BitsLemmas
import Derived.Laws.CopyOwn
import Derived.Deep.RegionLaw
namespace Go.Proofs.Ytefpmjnimnmniaa
set_option linter.unusedSimpArgs false
set_option linter.unusedVariables false
open Go.RowKit

theorem and_low (n : Int) (h0 : 0 ≤ n) (h1 : n < 4294967296) : bits .and .u64 n 4294967295 = n := by
  have h := bits_mask .u64 63 (by decide) (fun n h0 h1 => by rw [IntKind.wrap_u64]; omega) 32 (by decide) n (by omega) (by omega)
  have e : ((2 : Int) ^ 32 - 1) = 4294967295 := by decide
  have e2 : ((2 : Int) ^ 32) = 4294967296 := by decide
  rw [e, e2] at h
  rw [h]; omega

set_option maxHeartbeats 1600000 in
theorem mul64_one {w : World} (n : Int) (h0 : 0 ≤ n) (h1 : n < 4294967296) : Calls Try.prog 146 #[.int .u64 1, .int .u64 n] w fun e w' => e = .returned (.tuple #[.int .u64 0, .int .u64 n]) ∧ w' = w := by
  have b1 := and_low 1 (by omega) (by omega)
  have b2 := and_low n h0 h1
  have b3 := and_low 0 (by omega) (by omega)
  have b4 : n / 4294967296 = 0 := by omega
  go_enter Try.func146, Try.ntmps146
  go_wp2
  go_ret2
  exact ⟨rfl, rfl⟩
set_option maxHeartbeats 1600000 in
theorem mul_one {w : World} (n : Int) (h0 : 0 ≤ n) (h1 : n < 4294967296) : Calls Try.prog 131 #[.int .u64 1, .int .u64 n] w fun e w' => e = .returned (.tuple #[.int .u64 0, .int .u64 n]) ∧ w' = w := by
  go_enter Try.func131, Try.ntmps131
  go_wp2_with fail
  refine (mul64_one n h0 h1).mono ?_
  rintro e w1 ⟨rfl, rfl⟩
  go_wp2
  go_ret2
  exact ⟨rfl, rfl⟩

theorem elInt : Elem Try.prog 22 3 (.int .i64 0) 1 8 := elem_of Try.underlying22 (by kernel_rfl) rfl (by omega)
theorem nums_zero (n : Nat) : nums n (fun _ => 0) = List.replicate n (Value.int .i64 0) := by
  apply List.ext_getElem?
  intro i
  by_cases h : i < n <;> simp [nums, h]
def rep (n m : Nat) (x : Int) : List Value := List.replicate m (.int .i64 x) ++ List.replicate (n - m) (.int .i64 0)
theorem rep_len (n m : Nat) (x : Int) (h : m ≤ n) : (rep n m x).length = n := by simp [rep]; omega
theorem rep_at {n m j : Nat} (x : Int) (h : j < m) : (rep n m x)[j]? = some (.int .i64 x) := by
  unfold rep; rw [List.getElem?_append_left (by simpa using h)]; simp [h]

theorem rep_splice {n m k : Nat} (x : Int) (h : m + k ≤ n) : splice (rep n m x) m (List.replicate k (.int .i64 x)) = rep n (m + k) x := by
  unfold splice rep
  rw [List.take_left' (by simp), List.drop_append, List.drop_eq_nil_of_le (by simp), List.nil_append, List.length_replicate, List.length_replicate, List.drop_replicate, ← List.append_assoc, List.replicate_append_replicate]
  congr 2; omega
/-- make([]int, n): the block, whole. -/
theorem wpList_make_whole {P : Program} {w : World} {ops : Array Oper} {rest : List Oper} {o : Oper} {a : Act} {Q : Exit → Act → World → Prop}
    (hg : o.guard = none) (l c : Operand) (t e : TypeId) (hop : o.op = Op.makeSlice t l c) (he : Elem P t e (.int .i64 0) 1 8)
    (n : Nat) {L C : Int} (hl : a.eval l = .int .i64 L) (hc : a.eval c = .int .i64 C) (hL : L = n) (hC : C = n) (hn : n ≤ 17592186044416)
    (hK : ∀ w', Hid (w'.heap[w.heap.size]? = some (.cells (List.replicate n (Value.int .i64 0)).toArray e (0, 0))) → Below w.heap.size w w' → wpList P ops Q rest (a.put o.dst (.slice (some ⟨w.heap.size, 0, none⟩) n n)) w') :
    wpList P ops Q (o :: rest) a w := by
  obtain ⟨ht, ⟨i, hi, hz, hsz, hby⟩, hzc, hp⟩ := he
  refine wpList_make_full w hg l c t hop w.heap.size e i (.int .i64 0) 1 ht hi hz hsz .i64 .i64 L C n hl hc hL hC (by rw [hby]; omega) (by unfold maxLen; omega) (Nat.le_refl _) fun w' h1 h2 => ?_
  refine hK w' ?_ ((Below.refl _ _).grown h2 (Nat.le_refl _) (by simp))
  rcases h1.2 with ⟨hh, _⟩ | ⟨g, cap, cur, hv, _, hh, _, _, hs, htk⟩
  · cases hh
  · cases hv
    rw [show (Value.int .i64 0).cells = #[.int .i64 0] from rfl, toList_madeCells_one, Nat.mul_one, List.take_of_length_le (by simp; omega)] at htk
    show _ = _
    rw [hh, ← htk]
set_option maxHeartbeats 6400000 in
theorem repeatOne {w : World} {v : Value} {x : Int} {n : Nat} (hv : Ints w v [x]) (hn : n < 4294967296) : Calls Try.prog 106 #[v, .int .i64 n] w fun e w' => ∃ u, e = .returned u ∧ New 3 w w' u (List.replicate n x) ∧ Below w.heap.size w w' := by
  obtain ⟨a, c, b, o, rfl, hc, hm, ha, hx⟩ := hv.parts
  have hx0 := Lib.hid (hv.2 x (by simp))
  obtain ⟨rfl, hbw⟩ := ha (by simp)
  have h0 := hx 0 (by simp)
  simp only [List.getD_cons_zero, Nat.add_zero] at h0
  have H0 := Lib.hid h0
  clear hv ha hx h0
  have hn0 : (0 : Int) ≤ (n : Int) := by omega
  have hn1 : (n : Int) < 4294967296 := by omega
  have HN := Lib.hid hn
  have HN1 := Lib.hid hn1
  clear hn hn1
  have hneg : decide ((n : Int) < 0) = false := by simp
  have hu : IntKind.u64.wrap (n : Int) = n := by rw [IntKind.wrap_u64]; have := HN1.out; omega
  have hi : IntKind.i64.wrap (n : Int) = n := by rw [i64_wrap]; unfold wrap64; have := HN1.out; omega
  have hbig : decide ((9223372036854775807 : Int) < n) = false := by have := HN1.out; simp; omega
  simp only [List.length_cons, List.length_nil, Nat.zero_add] at hc ⊢
  go_enter Try.func106, Try.ntmps106
  go_upto_region 3 with (fail)
  clear hneg
  go_upto_region 4 with (go_at_call 131; refine (mul_one n hn0 HN1.out).mono ?_; rintro e w0 ⟨rfl, hw0⟩; obtain rfl := hw0.symm)
  go_upto_region 6 with (fail)
  clear hu hbig
  go_upto_region 7 with (at_make; refine wpList_make_whole rfl _ _ 22 3 rfl elInt n rfl rfl rfl rfl (by have := HN.out; omega) ?_; intro w1 hblk hb1; have HB := hblk; have HW := Lib.hid hb1; clear hblk hb1)
  replace HB : Hid (w1.heap[w.heap.size]? = some (.cells (rep n 0 x).toArray 3 (0, 0))) := Lib.hid (by have := HB.out; simpa [rep] using this)

  have hk1 : min 1 n ≤ n := by omega
  have HBK : Hid (∀ w', Below w1.heap.size w1 w' → w'.heap[w.heap.size]? = some (.cells (rep n 0 x).toArray 3 (0, 0))) := Lib.hid (fun w' hb => by
    rw [hb.block _ ((Array.getElem?_eq_some_iff.1 HB.out).1)]; exact HB.out)
  refine wp_region_text 2 (fun _ => .plain) (by kernel_rfl) (by simp) (fun _ => trivial) (fun ν => ?_)
  simp only [List.take_succ_cons, List.take_zero, List.drop_succ_cons, List.drop_zero]
  refine Grow.val (v := ?_) rfl rfl (fun wg hbg hdg => ?_) ?_
  rotate_left
  focus (clear hbg hdg; first | (go_simp; done) | (go_simp; with_reducible rfl))
  simp only [Act.put, List.setIfInBounds_toArray, List.set_cons_zero, List.set_cons_succ]
  refine Grow.val (v := ?_) rfl rfl (fun wg hbg hdg => ?_) ?_
  rotate_left
  focus (clear hbg hdg; first | (go_simp; done) | (go_simp; with_reducible rfl))
  simp only [Act.put, List.setIfInBounds_toArray, List.set_cons_zero, List.set_cons_succ]
  intro wg hbg hf hap
  clear hf hap
  have HX := Lib.hid (HBK.out wg hbg)
  replace HW := Lib.hid (HW.out.trans (hbg.mono HW.out.size))
  clear hbg HBK HB
  refine wpList_copy_splice rfl (.tmp 31) (.tmp 32) 22 22 rfl 3 Try.underlying22 (by kernel_rfl) (some ⟨w.heap.size, 0, none⟩) (some ⟨b, o, none⟩) n n 1 c rfl rfl w.heap.size 0 (rep n 0 x) 3 HX.out (List.replicate (min 1 n) (.int .i64 x)) (by simp) (fun hp => ⟨rfl, _, rfl, fun j v hj => ?_⟩) (by rw [rep_len _ _ _ (Nat.zero_le _)]; simp; omega) (fun v hv => ?_) w.heap.size w HW.out (Nat.le_refl _) ?_
  · have hjl := (List.getElem?_eq_some_iff.1 hj).1
    simp at hjl
    obtain rfl : j = 0 := by omega
    have hv := List.eq_of_mem_replicate (List.mem_of_getElem? hj)
    rw [add_zero, (HW.out.cell hbw).trans H0.out, hv]
  · rw [List.eq_of_mem_replicate hv]; rfl
  · intro w2 h2 hb2
    have HB2 : Hid (w2.heap[w.heap.size]? = some (.cells (rep n (min 1 n) x).toArray 3 (0, 0))) := Lib.hid (by have := h2.out; rwa [rep_splice x (by omega), Nat.zero_add] at this)
    have HW2 := Lib.hid hb2
    clear h2 hb2 HW HX
    rw [List.length_replicate]
    have HK := Lib.hid (show 0 < n → 0 < min 1 n by omega)
    generalize min 1 n = m0 at *
    go_wp2
    go_loopw [8] (fun i wr => ∃ m : Nat, m ≤ n ∧ i = .int .i64 m ∧ (0 < n → 0 < m) ∧ wr.heap[w.heap.size]? = some (.cells (rep n m x).toArray 3 (0, 0)) ∧ Below w.heap.size w wr) (fun i _ => n - (intOf i).toNat)
    case atStart => exact ⟨m0, hk1, by simp [goInt], HK.out, HB2.out, HW2.out⟩
    case round =>
      obtain ⟨m, hm1, rfl, hm2, hB, hW⟩ := hrel
      have HB := Lib.hid hB
      have HW := Lib.hid hW
      have HM := Lib.hid hm2
      clear hm2 hB hW HB2 HW2 HK
      by_cases hlt : m < n
      · have hmp := HM.out (by omega)
        have hm0 : (0 : Int) ≤ (m : Int) := by omega
        have hmn : (m : Int) ≤ (n : Int) := by omega
        have hne : (n = m) = False := by simp; omega
        go_upto_region 9 with (fail)
        have HD := Lib.hid HW.out.drew
        obtain ⟨q, hqd⟩ : ∃ q, q = min m (n - m) := ⟨_, rfl⟩
        have HQD := Lib.hid hqd
        have hq1 : 0 < q := by omega
        have hq2 : m + q ≤ n := by omega
        have hq3 : q ≤ m := by omega
        have hs : IntKind.i64.wrap ((m : Int) + (q : Int)) = (m : Int) + (q : Int) := by rw [i64_wrap]; unfold wrap64; have := HN1.out; omega
        clear hqd
        have hcell : ∀ j, j < m → wr.drew.cell? ⟨w.heap.size, j, none⟩ = some (.int .i64 x) := fun j hj => by
          have h2 := HB.out
          show World.cell? wr ⟨w.heap.size, j, none⟩ = _
          simp only [World.cell?, h2]
          simpa using rep_at (n := n) x hj
        have HCL := Lib.hid hcell
        clear hcell
        go_region_law (refine step_copy_splice rfl (.tmp 41) (.tmp 44) 22 22 rfl 3 Try.underlying22 (by kernel_rfl) (some ⟨w.heap.size, m, none⟩) (some ⟨w.heap.size, 0, none⟩) (n - m) (n - m) m n (by simp [Act.eval, Act.put]) (by simp [Act.eval, Act.put]) w.heap.size m (rep n m x) 3 HB.out (List.replicate q (.int .i64 x)) (by rw [List.length_replicate]; exact HQD.out) (fun hp => ⟨rfl, _, rfl, fun j v hj => by
            have hjl := (List.getElem?_eq_some_iff.1 hj).1
            have hv := List.eq_of_mem_replicate (List.mem_of_getElem? hj)
            simp at hjl
            rw [add_mk, Nat.zero_add, hv]; exact HCL.out j (by omega)⟩) (by rw [rep_len _ _ _ hm1]; simp; omega) (fun v hv => by rw [List.eq_of_mem_replicate hv]; rfl) w.heap.size w HD.out (Nat.le_refl _) ?_; intro w4 hg4 hb4; have HB4 := Lib.hid (rep_splice (n := n) (m := m) (k := q) x hq2 ▸ hg4.out); have HW4 := Lib.hid hb4; clear hg4 hb4; rw [List.length_replicate])
        clear HCL HB HW HD
        simp only [Act.put, List.getElem_toArray, List.getElem_cons_succ, List.getElem_cons_zero, List.setIfInBounds_toArray, List.set_cons_zero, List.set_cons_succ]
        go_wp2
        go_roundw
        case rel => exact ⟨m + q, hq2, by go_num, fun _ => by omega, HB4.out, HW4.out⟩
        case measure => simp [intOf]; omega
      · obtain rfl : m = n := by omega
        go_wp2
        go_ret
        refine ⟨_, rfl, ⟨⟨by simp, .inr ⟨w.heap.size, m, _, by simp, Nat.le_refl _, HB.out, by simp, by have := HN.out; unfold maxLen; omega, by simp [rep], by simp [rep]⟩⟩, by have := HN.out; simp; omega, fun y hy => by rw [List.eq_of_mem_replicate hy]; exact hx0.out⟩, HW.out⟩
end Go.Proofs.Ytefpmjnimnmniaa
