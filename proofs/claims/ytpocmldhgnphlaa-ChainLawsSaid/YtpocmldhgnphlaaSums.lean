/- The program's Fit and both programs' Sums. -/
import Derived.Test.YtpocmldhgnphlaaFit
namespace Go.Proofs.Ytpocmldhgnphlaa
set_option linter.unusedSimpArgs false
set_option linter.unusedVariables false
open Go.RowKit

def longE (b : Bool) (xs : List Int) : List Int := if b then [] else xs

set_option maxHeartbeats 3200000 in
theorem chainFit {w : World} {v : Value} {xs : List Int} (hv : Ints w v xs) :
    Calls Try.prog 20 #[v] w fun e w' => ∃ a n c, e = .returned (.tuple #[.slice a n c, .int .i64 (errOf (decide (16 < xs.length)))]) ∧
      Ints w' (.slice a n c) (longE (decide (16 < xs.length)) (fitL xs)) ∧ Below w.heap.size w w' := by
  have hl := hv.le
  have HV := Lib.hid hv
  have HIN := Lib.hid (fun t => show In64 (fn xs t) from hv.getD t)
  obtain ⟨a, c, b, o, rfl, hc, hm, ha, hx⟩ := hv.parts
  have HA := Lib.hid ha
  have HX := Lib.hid hx
  clear hv ha hx
  have HR := Lib.hid (show fitL xs = trim (fitR xs xs.length) from rfl)
  generalize H1 : xs.length = n at *
  have G1 := Lib.hid H1
  clear H1
  by_cases hlong : 16 < n
  · have hd : decide (16 < n) = true := by simpa using hlong
    have HD := Lib.hid hd
    clear hd
    go_enter Try.func20, Try.ntmps20
    go_wp2
    go_ret2
    exact ⟨_, _, _, ret_two rfl (by rw [HD.out]; rfl), by rw [HD.out]; exact Ints.nil, Below.refl _ _⟩
  · have hd : decide (16 < n) = false := by simpa using hlong
    have hd2 : decide ((16 : Int) < (n : Int)) = false := by simp; omega
    have HD := Lib.hid hd
    clear hd
    go_enter Try.func20, Try.ntmps20
    go_wp2
    go_loopw [4, 5] (fun v4 v5 wr => ∃ r : Nat, r ≤ n ∧ (∃ a5 c5, v5 = .slice a5 (n - r) c5 ∧ Ints wr v5 ((List.range (n - r)).map (fun t => dif (fn xs) r t)) ∧ ∀ ad, a5 = some ad → v4.ownBlock ≠ some ad.block) ∧
        wr.ownsRow w.heap.size 3 1 v4 (fitR xs r).length ((fitR xs r).map (.int .i64)) ∧ Below w.heap.size w wr) (fun _ v5 _ => match v5 with | .slice _ k _ => k | _ => 0)
    case atStart =>
      refine ⟨0, by omega, ⟨a, c, rfl, ?_, by simp [Value.ownBlock]⟩, World.ownsRow_nil _ _ _ _, Below.refl _ _⟩
      have e : (List.range (n - 0)).map (fun t => dif (fn xs) 0 t) = xs := by
        apply List.ext_getElem?
        intro i
        have := G1.out
        by_cases h : i < n
        · simp [dif, fn, h, this, List.getD_eq_getElem?_getD]
        · simp [h, List.getElem?_eq_none (l := xs) (i := i) (by omega)]
      rw [e]; exact HV.out
    case round =>
      obtain ⟨r, hr, ⟨a5, c5, rfl, hi5, hob⟩, ho, hb⟩ := hrel
      have HO2 := Lib.hid ho
      have HOB := Lib.hid hob
      have HI5 := Lib.hid hi5
      have HB2 := Lib.hid hb
      clear ho hob hi5 hb
      by_cases hlt : r < n
      · obtain ⟨q, hq⟩ : ∃ q, n - r = q + 1 := ⟨n - r - 1, by omega⟩
        have HQ := Lib.hid hq
        have hqn : q + 1 ≤ n := by omega
        rw [hq] at HI5 ⊢
        clear hq
        obtain ⟨a6, c6, b6, o6, hf6, hc6, hm6, ha6, hx6⟩ := HI5.out.parts
        try simp only [List.length_map, List.length_range] at hf6
        try simp only [List.length_map, List.length_range] at ha6
        try simp only [List.length_map, List.length_range] at hx6
        simp only [Value.slice.injEq] at hf6
        obtain ⟨rfl, -, rfl⟩ := hf6
        obtain ⟨rfl, hbw6⟩ := ha6 (by omega)
        have HNE := Lib.hid (HOB.out _ rfl)
        have HX6 : Hid (∀ j, j < q + 1 → wr.cell? ⟨b6, o6 + j, none⟩ = some (.int .i64 (dif (fn xs) r j))) := Lib.hid (fun j hj => by
          rw [hx6 j hj, getD_range, if_pos hj])
        have c0 := HX6.out 0 (by omega)
        rw [Nat.add_zero] at c0
        have HDI := Lib.hid (dif_In HIN.out r 0)
        clear hx6 ha6 HOB
        generalize hd : dif (fn xs) r 0 = d at c0 HDI
        have HDD := Lib.hid hd
        clear hd
        go_wp2_with (at_builtin; refine wpList_append_ints' rfl _ _ 24 3 rfl elInt w.heap.size (xs := fitR xs r) (ys := [d]) rfl rfl (HO2.out.alloc _) ?c1 ?c2 ?c3 ?_)
        case c1 => exact ints_one HDI.out
        case c2 => rw [fitR_len]; omega
        case c3 => have := HB2.out.size; simp; omega
        intro v7 w7 hown7 hg7 hpl7
        have hsz7 : wr.heap.size + 1 ≤ w7.heap.size := by have := hg7.size; simp at this; exact this
        have HOB7 : Hid (∀ k, v7.ownBlock = some k → k ≠ b6 ∧ w.heap.size ≤ k ∧ k < w7.heap.size) := Lib.hid (fun k hk => by
          refine ⟨?_, (hown7.lt k hk).1, (hown7.lt k hk).2⟩
          rcases hpl7 with h | h
          · intro e; subst e; rw [h] at hk; exact HNE.out hk
          · rw [h] at hk; simp at hk; omega)
        have HX7 : Hid (∀ j, j < q + 1 → w7.cell? ⟨b6, o6 + j, none⟩ = some (.int .i64 (dif (fn xs) r j))) := Lib.hid (fun j hj =>
          hg7.cell ((World.cell?_alloc_past _ _ _ (by simpa using hbw6)).trans (HX6.out j hj)) (by intro e; exact HNE.out e.symm))
        have HB7 := Lib.hid ((HB2.out.alloc HB2.out.size _).grown hg7 (by have := HB2.out.size; simp; omega) (fun k hk => (HO2.out.lt k hk).1))
        have HO7 : Hid (w7.ownsRow w.heap.size 3 1 v7 (fitR xs (r + 1)).length ((fitR xs (r + 1)).map (.int .i64))) := Lib.hid (by
          rw [← fitR_succ, HDD.out]
          simpa using hown7)
        clear hown7 hg7 hpl7 c0
        obtain ⟨wq, rfl⟩ : ∃ wq : World, wq = w7 := ⟨_, rfl⟩
        go_wp2
        go_loopw [6, 7] (fun v6 v wz => ∃ i : Nat, i ≤ q ∧ v = .int .i64 i ∧ wz.ownsRow wq.heap.size 3 1 v6 ((List.range i).map (dif (fn xs) (r + 1))).length (((List.range i).map (dif (fn xs) (r + 1))).map (.int .i64)) ∧
            Below wq.heap.size wq wz) (fun _ v _ => q - (intOf v).toNat)
        case atStart => exact ⟨0, by omega, rfl, World.ownsRow_nil _ _ _ _, Below.refl _ _⟩
        case round =>
          obtain ⟨i, hi, rfl, ho8, hb8⟩ := hrel
          have HO8 := Lib.hid ho8
          have HB8 := Lib.hid hb8
          by_cases hlt2 : i < q
          · have e1 := (hb8.cell (p := ⟨b6, o6 + (i + 1), none⟩) (by simp; omega)).trans (HX7.out (i + 1) (by omega))
            have e2 := (hb8.cell (p := ⟨b6, o6 + i, none⟩) (by simp; omega)).trans (HX7.out i (by omega))
            clear ho8 hb8
            have HDS := Lib.hid (show wrap64 (dif (fn xs) r (i + 1) - dif (fn xs) r i) = dif (fn xs) (r + 1) i from rfl)
            generalize dif (fn xs) r (i + 1) = d1 at e1 HDS
            generalize dif (fn xs) r i = d2 at e2 HDS
            go_wp2
            have hv6 : some b6 ≠ u6.ownBlock := fun e => by have := (HO8.out.lt b6 e.symm).1; omega
            have hb6 : b6 < wr.heap.size := by have := HB8.out.size; omega
            have i1 : (0 : Int) ≤ (i : Int) := by omega
            have i2 : (0 : Int) ≤ (i : Int) + 1 := by omega
            have i3 : (i : Int) < (q : Int) + 1 := by omega
            have i4 : (i : Int) + 1 < (q : Int) + 1 := by omega
            have i5 : ((i : Int) + 1).toNat = i + 1 := by omega
            have i6 : IntKind.i64.wrap ((i : Int) + 1) = (i : Int) + 1 := IntWalk.i64_in _ (by omega)
            go_region_held3 (fun w' => w'.cell? ⟨b6, o6 + (i + 1), none⟩ = some (.int .i64 d1) ∧ w'.cell? ⟨b6, o6 + i, none⟩ = some (.int .i64 d2))
              (first
                | go_keep
                | (go_split_ands
                   refine ⟨?_, ?_⟩
                   · (rw [hg9.cell_far _ (by simp; omega) hv6]; assumption)
                   · (rw [hg9.cell_far _ (by simp; omega) hv6]; assumption)))
              ((refine step_append_int (by rfl) _ _ 24 3 (by rfl) elInt wq.heap.size (xs := (List.range i).map (dif (fn xs) (r + 1))) (by rfl) (by rfl) ((HO8.out.alloc _).drew) (heap_alloc_new wr _) (by decide) (by simp; omega) (by have := HB8.out.size; simp; omega) (wr.heap.size + 1) (by simp) ?_; intro g9 c9 w9 hown9 hg9 hat9 hlt9 hkeep9))
            have HO9 : Hid (w9.ownsRow wq.heap.size 3 1 (.slice (some ⟨g9, 0, none⟩) (i + 1) c9) ((List.range (i + 1)).map (dif (fn xs) (r + 1))).length (((List.range (i + 1)).map (dif (fn xs) (r + 1))).map (.int .i64))) := Lib.hid (by
              have h := hown9
              rw [i64_wrap, HDS.out, show (List.range i).map (dif (fn xs) (r + 1)) ++ [dif (fn xs) (r + 1) i] = (List.range (i + 1)).map (dif (fn xs) (r + 1)) by simp [List.range_succ]] at h
              simpa using h)
            have HB9 := Lib.hid (((HB8.out.alloc HB8.out.size _).drew).grown hg9 (by have := HB8.out.size; simp; omega) (fun k hk => (HO8.out.lt k hk).1))
            clear hown9 hg9 hat9 hlt9 hkeep9 e1 e2 hv6 hb6 i1 i2 i3 i4 i5 i6
            simp only [List.length_map, List.length_range]
            go_wp2
            go_roundw
            case rel => exact ⟨i + 1, by omega, by go_num, HO9.out, HB9.out⟩
            case measure => simp [intOf]; omega
          · obtain rfl : i = q := by omega
            clear ho8 hb8
            have hin : Ints wr u6 ((List.range i).map (dif (fn xs) (r + 1))) := Ints.of_own HO8.out (by simp; omega) (fun x hx => by
              obtain ⟨j, -, rfl⟩ := List.mem_map.1 hx
              exact wrap_In _)
            have hnr : n - (r + 1) = i := by have := HQ.out; omega
            obtain ⟨a9, c9, hf9⟩ := hin.form
            simp only [List.length_map, List.length_range] at hf9
            subst hf9
            have HIN9 := Lib.hid hin
            have HNR := Lib.hid hnr
            clear hin hnr
            go_wp2
            go_roundw
            case rel =>
              refine ⟨r + 1, by omega, ⟨a9, c9, by rw [HNR.out], by rw [HNR.out]; exact HIN9.out, ?_⟩, own_below HO7.out HB8.out (fun k hk => (HOB7.out k hk).2.2), HB7.out.trans (HB8.out.mono HB7.out.size)⟩
              intro ad had e
              subst had
              have h1 := (HOB7.out _ e).2.2
              have h2 := (HO8.out.lt ad.block rfl).1
              omega
            case measure => have := HQ.out; simp
      · obtain rfl : r = n := by omega
        rw [Nat.sub_self]
        go_wp2_with fail
        refine (chainTrim' (Ints.of_own HO2.out (by rw [fitR_len]; exact hl) (fitR_In HIN.out r))).mono ?_
        rintro e w6 ⟨a6, c6, rfl, hi6, -, hb6⟩
        rw [← HR.out] at hi6 ⊢
        have HI6 := Lib.hid hi6
        have HB6 := Lib.hid (HB2.out.trans (hb6.mono HB2.out.size))
        clear hi6 hb6
        go_wp2
        go_ret2
        exact ⟨_, _, _, ret_two rfl (by rw [HD.out]; rfl), by rw [HD.out]; exact HI6.out, HB6.out⟩
end Go.Proofs.Ytpocmldhgnphlaa
