/- What the claim needs, part 25. -/
import Derived.Test.YtjmikinbdclfbaaCD19
namespace Go.Proofs.Ytjmikinbdclfbaa
set_option linter.unusedSimpArgs false
set_option linter.unusedVariables false
section
open Go.RowKit
def predX (f : FuncD) (t b : Nat) : List (List Int) := (List.range f.blocks.length).map fun u => natI (if u < t then predN f f.blocks.length 0 u else if u = t then predN f b 0 u else [])
theorem predX_len (f : FuncD) (t b : Nat) : (predX f t b).length = f.blocks.length := by simp [predX]
theorem predX_at {f : FuncD} {t b : Nat} (h : t < f.blocks.length) : (predX f t b)[t]? = some (natI (predN f b 0 t)) := by simp [predX, h]
theorem predX_start (f : FuncD) : predX f 0 0 = List.replicate f.blocks.length [] := by
  apply List.ext_getElem?
  intro t
  by_cases h : t < f.blocks.length
  · simp only [predX, List.getElem?_map, List.getElem?_range h, Option.map_some]
    rw [List.getElem?_replicate, if_pos h]
    by_cases e : t = 0 <;> simp [e, natI, predN_zero]
  · rw [List.getElem?_eq_none (by rw [predX_len]; omega), List.getElem?_eq_none (by simp; omega)]
theorem predN_succ (f : FuncD) (b t : Nat) : predN f (b + 1) 0 t = predN f b 0 t ++ (if (toB f b).contains t then [b] else []) := by
  rw [predN_zero, predN_zero, List.range_succ, List.filter_append]
  simp only [List.filter_cons, List.filter_nil]
theorem predX_old {f : FuncD} {t b : Nat} (h : (toB f b).contains t = false) : predX f t (b + 1) = predX f t b := by
  unfold predX
  refine List.map_congr_left fun u _ => ?_
  by_cases e : u = t
  · subst e; rw [predN_succ, h]; simp
  · simp [e]
theorem predX_new {f : FuncD} {t b : Nat} (h : (toB f b).contains t = true) (ht : t < f.blocks.length) : (predX f t b).set t (natI (predN f b 0 t ++ [b])) = predX f t (b + 1) := by
  apply List.ext_getElem?
  intro u
  rw [List.getElem?_set, predX_len]
  by_cases hu : u < f.blocks.length
  · have e0 : ∀ b, (predX f t b)[u]? = some (natI (if u < t then predN f f.blocks.length 0 u else if u = t then predN f b 0 u else [])) := fun b => by simp [predX, hu]
    rw [e0, e0]
    by_cases e : t = u
    · subst e
      rw [if_pos rfl, if_pos hu, if_neg (Nat.lt_irrefl _), if_pos rfl, predN_succ, h]
      simp
    · rw [if_neg e, if_neg (Ne.symm e), if_neg (Ne.symm e)]
  · rw [List.getElem?_eq_none (by rw [predX_len]; omega), List.getElem?_eq_none (by rw [predX_len]; omega)]
    split <;> simp_all
theorem predX_next (f : FuncD) (t : Nat) : predX f t f.blocks.length = predX f (t + 1) 0 := by
  unfold predX
  refine List.map_congr_left fun u _ => ?_
  by_cases h1 : u < t
  · rw [if_pos h1, if_pos (by omega)]
  · rw [if_neg h1]
    by_cases h2 : u = t
    · subst h2; rw [if_pos rfl, if_pos (by omega)]
    · rw [if_neg h2, if_neg (by omega)]
      split
      · simp [predN_zero]
      · rfl
theorem predX_done (f : FuncD) : predX f f.blocks.length 0 = predsF f := by
  unfold predX predsF predI
  refine List.map_congr_left fun u hu => ?_
  rw [if_pos (List.mem_range.1 hu)]
set_option maxHeartbeats 12800000 in
set_option maxRecDepth 100000 in
theorem refPreds {w : World} {v : Value} {f : FuncD} (hv : FuncV w v f) (hf : formB f = true) : Calls Try.prog 19 #[v] w fun e w' => ∃ pv, e = .returned pv ∧ Lists w' pv (predsF f) ∧ Below w.heap.size w w' := by
  have HTO := Lib.hid (fun (b : Nat) (x : BlockD) (h : f.blocks[b]? = some x) => formB_to hf h)
  obtain ⟨hn1, hn2⟩ := formB_nb hf
  obtain ⟨ap, cp, ab, cb, rfl, hp, ha, hc, hB⟩ := hv.form
  obtain ⟨a2, c2, bb, bo, hbe, hbc, hbm, hbl, hba, hbx⟩ := blocks_parts hB
  cases hbe
  obtain ⟨np, hnp⟩ : ∃ np, np = f.params.length := ⟨_, rfl⟩
  obtain ⟨nb, hnb⟩ : ∃ nb, nb = f.blocks.length := ⟨_, rfl⟩
  rw [← hnp]
  rw [← hnb] at hbc hba hbl hn1 hn2 ⊢
  obtain ⟨rfl, hbw⟩ := hba hn1
  have HNB := Lib.hid hnb
  have HBX := Lib.hid hbx
  have hn0 : (0 : Int) ≤ (nb : Int) := by omega
  clear hp ha hc hB hv hbx hnp hnb hba hf
  generalize f.arrays = ar at *
  generalize f.cells = ce at *
  have hmk := run_make_row' (P := Try.prog) 32 22 (.slice none 0 0) 24 Try.underlying32 infoInts rfl .i64 .i64 nb (by omega) (by omega)
  go_enter Try.func19, Try.ntmps19
  go_upto_region 1 with (fail)
  have B1 : Hid (Box (w.alloc (.cells #[.slice ap np cp, .int .i64 ar, .int .i64 ce, .slice (some ⟨bb, bo, none⟩) nb cb] 31)) (w.heap.size) #[.slice ap np cp, .int .i64 ar, .int .i64 ce, .slice (some ⟨bb, bo, none⟩) nb cb]) := Lib.hid (by simpa using (Box.new w #[.slice ap np cp, .int .i64 ar, .int .i64 ce, .slice (some ⟨bb, bo, none⟩) nb cb] 31))
  have HW : Hid (Below w.heap.size w (w.alloc (.cells #[.slice ap np cp, .int .i64 ar, .int .i64 ce, .slice (some ⟨bb, bo, none⟩) nb cb] 31))) := Lib.hid ((Below.refl _ _).alloc (Nat.le_refl _) _)
  generalize (w.alloc (.cells #[.slice ap np cp, .int .i64 ar, .int .i64 ce, .slice (some ⟨bb, bo, none⟩) nb cb] 31)) = wv at *
  obtain ⟨lB1, cB1, fB1⟩ := B1.out
  go_upto_region 2 with (fail)
  have HRW : Hid (Bag (wv.alloc (.cells (madeCells #[.slice none 0 0] nb) 22)) w.heap.size [w.heap.size] wv.heap.size 3 _ (predX f 0 0)) := Lib.hid (by
    rw [predX_start, ← HNB.out]
    exact Bag.empty (Box.new _ _ _))
  have hbA := (Below.refl wv.heap.size wv).alloc (Nat.le_refl _) (.cells (madeCells #[.slice none 0 0] nb) 22)
  have HG0 : Hid (w.heap.size < wv.heap.size) := Lib.hid lB1
  clear lB1 cB1 fB1
  replace B1 := Lib.hid (B1.out.later hbA)
  replace HW := Lib.hid (HW.out.trans (hbA.mono HW.out.size))
  clear hbA
  obtain ⟨lB1, cB1, fB1⟩ := B1.out
  obtain ⟨bp, hbp⟩ : ∃ bp, bp = wv.heap.size := ⟨_, rfl⟩
  rw [← hbp] at HRW HG0
  generalize wv.alloc _ = wa at *
  simp only [← hbp]
  clear hbp hmk

  go_wp2_with fail
  go_loopw [4] (fun i wr => ∃ (t : Nat) (vs : List Value), t ≤ nb ∧ i = .int .i64 t ∧ Bag wr w.heap.size [w.heap.size] bp 3 vs (predX f t 0) ∧ Below w.heap.size w wr ∧ Box wr w.heap.size #[.slice ap np cp, .int .i64 ar, .int .i64 ce, .slice (some ⟨bb, bo, none⟩) nb cb]) (fun i _ => nb - (intOf i).toNat)
  case atStart => exact ⟨0, _, Nat.zero_le _, rfl, HRW.out, HW.out, B1.out⟩
  case round =>
    obtain ⟨t, vs, ht, rfl, hR, hW, h1⟩ := hrel
    clear lB1 cB1 fB1
    replace HRW := Lib.hid hR
    replace HW := Lib.hid hW
    replace B1 := Lib.hid h1
    clear hR hW h1
    generalize wr = w3 at *

    obtain ⟨lB1, cB1, fB1⟩ := B1.out
    by_cases hlt : t < nb
    · go_wp2_with fail
      go_loopw [5] (fun i wr => ∃ (b : Nat) (vs : List Value), b ≤ nb ∧ i = .int .i64 b ∧ Bag wr w.heap.size [w.heap.size] bp 3 vs (predX f t b) ∧ Below w.heap.size w wr ∧ Box wr w.heap.size #[.slice ap np cp, .int .i64 ar, .int .i64 ce, .slice (some ⟨bb, bo, none⟩) nb cb]) (fun i _ => nb - (intOf i).toNat)
      case atStart => exact ⟨0, _, Nat.zero_le _, rfl, HRW.out, HW.out, B1.out⟩
      case round =>
        obtain ⟨b, vs, hb, rfl, hR, hW, h1⟩ := hrel
        clear lB1 cB1 fB1
        replace HRW := Lib.hid hR
        replace HW := Lib.hid hW
        replace B1 := Lib.hid h1
        clear hR hW h1
        generalize wr = w5 at *

        obtain ⟨lB1, cB1, fB1⟩ := B1.out
        by_cases hltb : b < nb
        · obtain ⟨x, hjx⟩ : ∃ x, f.blocks[b]? = some x := ⟨_, List.getElem?_eq_getElem (by have := HNB.out; omega)⟩
          obtain ⟨api, aii, ati, cpi, cii, cti, hC⟩ := HBX.out b x hjx
          have HIT := Lib.hid (hC.to.below HW.out)
          obtain ⟨k0, k1, k2, k3, k4, k5, q1, q2, q3, q4, q5, q6⟩ := hC.below HW.out hbw
          obtain ⟨cc, hcc⟩ : ∃ cc, cc = x.term.to.contains (t : Int) := ⟨_, rfl⟩
          have HCC : Hid ((toB f b).contains t = cc) := Lib.hid (by
            rw [hcc, natI_contains (fun y hy => by have := HTO.out b x hjx y hy; omega), toB_at hjx])
          have HCT := Lib.hid (refHas (x := (t : Int)) HIT.out)
          rw [← hcc] at HCT
          clear q1 q2 q3 q4 q5 q6 hC hjx k0 k1 k2 k3 k5 hcc
          go_wp2_with fail
          refine HCT.out.mono ?_
          rintro e w6 ⟨rfl, rfl⟩

          clear k4
          cases cc
          · go_wp2
            go_roundw
            case rel => exact ⟨b + 1, vs, hltb, by go_num, by rw [predX_old HCC.out]; exact HRW.out, HW.out, B1.out⟩
            case measure => simp [intOf]; omega
          · obtain ⟨v, hvt, hcv, hOv⟩ := HRW.out.at (predX_at (f := f) (t := t) (b := b) (by have := HNB.out; omega))
            obtain ⟨n, hn⟩ : ∃ n, n = (natI (predN f b 0 t)).length := ⟨_, rfl⟩
            have hnle : n ≤ b + 1 := by rw [hn, natI_len]; exact predN_le f b 0 t
            rw [← hn] at hOv
            have HN := Lib.hid hn
            have HO := Lib.hid hOv
            have HVT := Lib.hid hvt
            obtain ⟨va, vc, rfl⟩ := hOv.form
            have hbpl := HRW.out.box.lt
            have hbpf := HRW.out.box.free t
            clear hn hOv hvt
            have HAP := Lib.hid (HO.out.alloc (.cells #[.int .i64 b] 3))
            have HBX1 := Lib.hid (Box.new w5 #[.int .i64 b] 3)
            have HBR := Lib.hid (HRW.out.alloc (.cells #[.int .i64 b] 3))
            have HB1 := Lib.hid (B1.out.alloc (.cells #[.int .i64 b] 3))
            have HWA := Lib.hid (HW.out.alloc HW.out.size (.cells #[.int .i64 b] 3))
            go_wp2_with (at_builtin; refine wpList_kept rfl _ _ 22 3 rfl elInt rfl rfl HAP.out (Row.of_box (n := 1) (size := 1) HBX1.out rfl (by omega)) (by simp [Value.oneCell']) (by unfold maxLen; omega) (by omega) HWA.out.size (by intro y hy; simp at hy ⊢; omega) ?_; intro v7 w7 hO7 hK7; obtain ⟨oa7, oc7, rfl⟩ := hO7.form; have HO7 := Lib.hid hO7; have HK7 := Lib.hid hK7; have hc7 : w7.cell? ⟨bp, t, none⟩ = some (.slice va n vc) := (HBR.out.box.kept hK7 (by simp) (fun e => HO.out.free _ e (by simp))).at t (by simpa using HVT.out); have hf7 : w7.frozen? ⟨bp, t, none⟩ = false := (HBR.out.box.kept hK7 (by simp) (fun e => HO.out.free _ e (by simp))).free t; clear hO7 hK7)
            have HR7 : Hid (Bag (w7.setCell ⟨bp, t, none⟩ (.slice oa7 (n + 1) oc7)) w.heap.size [w.heap.size] bp 3 (vs.set t (.slice oa7 (n + 1) oc7)) (predX f t (b + 1))) := Lib.hid (by
              rw [← predX_new HCC.out (by have := HNB.out; omega)]
              refine HBR.out.put HVT.out (predX_at (by have := HNB.out; omega)) ?_ HK7.out
              have e9 : natI (predN f b 0 t ++ [b]) = natI (predN f b 0 t) ++ [(b : Int)] := by simp [natI]
              rw [e9, List.length_append, List.map_append, ← HN.out]
              exact HO7.out)
            have HW7 := Lib.hid ((HK7.out.below HWA.out (by simp) (fun k hk => (HAP.out.lt hk).2)).setCell (p := ⟨bp, t, none⟩) (by have := HG0.out; simp only; omega) (.slice oa7 (n + 1) oc7))
            have H17 := Lib.hid ((HB1.out.kept HK7.out (by simp) (fun e => HO.out.free _ e (by simp))).other (p := ⟨bp, t, none⟩) (.slice oa7 (n + 1) oc7) (by have := HG0.out; simp only; omega))
            go_roundw
            case rel => exact ⟨b + 1, _, hltb, by go_num, HR7.out, HW7.out, H17.out⟩
            case measure => simp [intOf]; omega
        · have hbn : b = nb := by omega
          have HNX : Hid (predX f t b = predX f (t + 1) 0) := Lib.hid (by rw [hbn, HNB.out, predX_next])
          go_wp2
          go_roundw
          case rel => exact ⟨t + 1, vs, hlt, by go_num, by rw [← HNX.out]; exact HRW.out, HW.out, B1.out⟩
          case measure => simp [intOf]; omega
    · have htn : t = nb := by omega
      have HLS : Hid (Lists w3 (.slice (some ⟨bp, 0, none⟩) nb nb) (predsF f)) := Lib.hid (by
        have h1 := HRW.out
        rw [htn, HNB.out, predX_done] at h1
        have h2 := h1.lists (by unfold predsF; rw [predI_len]; have := HNB.out; omega) (predI_ok (by have := HNB.out; omega))
        have h3 : (predsF f).length = nb := by unfold predsF; rw [predI_len, HNB.out]
        rw [h3] at h2; exact h2)
      go_wp2
      go_ret
      exact ⟨_, rfl, HLS.out, HW.out⟩
end
section
open Go.RowKit
end
section
open Go.RowKit
end
end Go.Proofs.Ytjmikinbdclfbaa
