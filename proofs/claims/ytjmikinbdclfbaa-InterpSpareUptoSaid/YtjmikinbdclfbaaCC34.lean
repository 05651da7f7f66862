/- What the claim needs, part 34. -/
import Derived.Test.YtjmikinbdclfbaaCC33
import Derived.Test.YtjmikinbdclfbaaCC18
import Derived.ArgAppend
import Derived.OwnWalk
import Derived.Test.YtjmikinbdclfbaaCC29
import Derived.Test.YtjmikinbdclfbaaCC21
namespace Go.Proofs.Ytjmikinbdclfbaa
set_option linter.unusedSimpArgs false
set_option linter.unusedVariables false
open Go.RowKit
def InputV (W : World) (v : Value) (i : InputD) : Prop := ∃ a b, v = .agg #[a, b] ∧ Ints W a i.args ∧ Lists W b i.arrays
theorem InputV.below {W W' : World} {v : Value} {i : InputD} (h : InputV W v i) (hb : Below W.heap.size W W') : InputV W' v i := by
  obtain ⟨a, b, e, h1, h2⟩ := h
  exact ⟨a, b, e, h1.below hb, h2.below hb⟩
set_option maxHeartbeats 6400000 in
theorem listC {w : World} {v : Value} {i : InputD} {n : Nat} (hv : InputV w v i) : Calls Try.prog 27 #[v, .int .i64 n] w (CloneR ((i.arrays.getD n []).take 4096) w) := by
  obtain ⟨a, b, rfl, -, hb⟩ := hv
  obtain ⟨vs, ab, cb, bb, ob, rfl, hc, hm, hm2, hbl, hcells, hints⟩ := hb.parts
  obtain ⟨aa, haa⟩ : ∃ aa, aa = i.arrays := ⟨_, rfl⟩
  rw [← haa] at hbl hcells hints ⊢
  rw [← haa] at hc hm2
  obtain ⟨l, hl⟩ : ∃ l, l = aa.length := ⟨_, rfl⟩
  rw [← hl] at hbl hcells hints hc hm2
  rw [← hl]
  clear hb haa
  by_cases hlt : n < l
  · have ht : decide ((l : Int) ≤ (n : Int)) = false := by simp; omega
    obtain ⟨rfl, hbw⟩ := hbl (by omega)
    have hx := hcells n hlt
    have hi := hints n hlt
    obtain ⟨ax, cx, hxe⟩ := hi.form
    rw [hxe] at hx hi
    obtain ⟨xs, hxs⟩ : ∃ xs, xs = aa.getD n [] := ⟨_, rfl⟩
    rw [← hxs] at hx hi ⊢
    obtain ⟨m, hmm⟩ : ∃ m, m = xs.length := ⟨_, rfl⟩
    obtain ⟨ax2, cx2, bx, ox, hxe2, hcm, hcc, -, -⟩ := hi.parts
    cases hxe2
    rw [← hmm] at hx hi hcm
    have HI := Lib.hid hi
    have HMM := Lib.hid hmm
    have hb64 := hi.le
    rw [← hmm] at hb64
    clear hcells hints hbl hl hxs hxe hi hmm
    go_enter Try.func27, Try.ntmps27
    go_upto_region 1 with (fail)
    have B2 : Hid (Box (w.alloc (.cells #[a, .slice (some ⟨bb, ob, none⟩) l cb] 34)) (w.heap.size) #[a, .slice (some ⟨bb, ob, none⟩) l cb]) := Lib.hid (by simpa using (Box.new w #[a, .slice (some ⟨bb, ob, none⟩) l cb] 34))
    have HW : Hid (Below w.heap.size w (w.alloc (.cells #[a, .slice (some ⟨bb, ob, none⟩) l cb] 34))) := Lib.hid ((Below.refl _ _).alloc (Nat.le_refl _) _)
    generalize (w.alloc (.cells #[a, .slice (some ⟨bb, ob, none⟩) l cb] 34)) = wv at *
    obtain ⟨lB2, cB2, fB2⟩ := B2.out
    have hx1 := (HW.out.cell (p := ⟨bb, ob + n, none⟩) hbw).trans hx
    clear hx
    obtain ⟨k, hk⟩ : ∃ k, k = min m 4096 := ⟨_, rfl⟩
    have hmin : (min (m : Int) 4096).toNat = k := by omega
    have hkm : k ≤ m := by omega
    have HQ : Hid (xs.take 4096 = xs.take k) := Lib.hid (by
      rw [hk, HMM.out]
      by_cases h4 : xs.length ≤ 4096
      · rw [Nat.min_eq_left h4, List.take_of_length_le h4, List.take_length]
      · rw [Nat.min_eq_right (by omega)])
    clear hk
    go_upto_region 4 with (fail)
    go_wp2_with fail
    clear lB2 cB2 fB2
    refine (cloneI ((HI.out.take (k := k) (by have := HMM.out; omega)).below HW.out)).mono ?_
    rintro e w2 ⟨u, S, rfl, ho, hf, hb⟩
    have HO := Lib.hid ho
    have HF := Lib.hid hf
    have HB := Lib.hid hb
    clear ho hf hb
    go_wp2
    go_ret
    exact ⟨u, S, rfl, by rw [HQ.out]; exact HO.out, fun k hk => Nat.le_trans HW.out.size (HF.out k hk), HW.out.trans (HB.out.mono HW.out.size)⟩
  · have ht : decide ((l : Int) ≤ (n : Int)) = true := by simp; omega
    have hnil : (aa.getD n []).take 4096 = [] := by rw [List.getD_eq_getElem?_getD, List.getElem?_eq_none (by omega)]; rfl
    have HN := Lib.hid hnil
    clear hcells hints hbl hl hnil
    go_enter Try.func27, Try.ntmps27
    go_upto_region 1 with (fail)
    have B2 : Hid (Box (w.alloc (.cells #[a, .slice ab l cb] 34)) (w.heap.size) #[a, .slice ab l cb]) := Lib.hid (by simpa using (Box.new w #[a, .slice ab l cb] 34))
    have HW : Hid (Below w.heap.size w (w.alloc (.cells #[a, .slice ab l cb] 34))) := Lib.hid ((Below.refl _ _).alloc (Nat.le_refl _) _)
    generalize (w.alloc (.cells #[a, .slice ab l cb] 34)) = wv at *
    obtain ⟨lB2, cB2, fB2⟩ := B2.out
    go_wp2
    go_ret
    exact ⟨_, Foot.none, rfl, by rw [HN.out]; exact OInts.nil none, fun k hk => hk.elim, HW.out⟩
theorem OLists.lists {W : World} {S : Foot} {v : Value} {xs : List (List Int)} (h : OLists W S v xs) : Lists W v xs := by
  obtain ⟨cs, G, F, hp⟩ := h
  have hl := hp.row.row.len
  refine ⟨cs, by omega, hp.row.row, fun j hj => ?_⟩
  obtain ⟨u, hu, ho⟩ := hp.el j _ (List.getElem?_eq_getElem hj)
  have hc0 : cs[j]? = some u := by
    have h1 := chunk_at (cs := cs) (size := 1) (j := j) (i := 0) (by omega)
    rw [hu] at h1
    simpa using h1.symm
  have e1 : cs.getD j undef = u := by rw [List.getD_eq_getElem?_getD, hc0]; rfl
  have e2 : xs.getD j [] = xs[j] := by rw [List.getD_eq_getElem?_getD, List.getElem?_eq_getElem hj]; rfl
  rw [e1, e2]
  exact ho.ints
theorem MachP.arrs {base bs fuel : Nat} {W W1 : World} {bm : Nat} {s : RunS} {ov av vv cv u : Value} {mv : Nat} {m : List (Int × Value)} {F : Nat → Foot} {G : Foot} {xs : List (List Int)} (h : MachP base bs fuel W bm s ⟨0, 0, 0⟩ ov av vv cv mv m F) (ho : Off (F 2) W W1) (hG : ∀ k, G k → F 2 k ∨ W.heap.size ≤ k) (hB : base ≤ W.heap.size)
    (hu : OLists W1 G u xs) : MachP base bs fuel (W1.setCell ⟨bm, 4, none⟩ u) bm { s with arrays := xs } ⟨0, 0, 0⟩ ov u vv cv mv m (newF F 2 G) := by
  have hne : ∀ j, j ≠ 2 → (F j).off (F 2) := fun j hj => h.apart j 2 hj
  have hap := newF_apart (i := 2) (G := G) h.apart (fun _ _ hk => h.lt hk) hG
  have hoff := Off.set W1 ⟨bm, 4, none⟩ u
  have hb0 : newF F 2 G 0 bm := by rw [newF_ne F 2 G (by omega)]; exact (h.b0 bm).2 rfl
  have hq : ∀ j, j ≠ 0 → (newF F 2 G j).off (Foot.one bm) := fun j hj k hk e => hap j 0 hj k hk (by cases e; exact hb0)
  have hq' : ∀ j, j ≠ 0 → j ≠ 2 → (F j).off (Foot.one bm) := fun j hj hj1 => by have h9 := hq j hj; rwa [newF_ne F 2 G hj1] at h9
  have hbx := (h.box.off ho (fun e => h.apart 0 2 (by omega) _ ((h.b0 _).2 rfl) e)).set 4 u
  refine ⟨hbx, by rw [newF_ne F 2 G (by omega)]; exact h.b0, ?_, ?_, ?_, ?_, ?_, h.val, ?_, h.v64, hap, ?_, ?_⟩
  · rw [newF_ne F 2 G (by omega)]; exact (h.out.off ho (hne 1 (by omega))).off hoff (hq' 1 (by omega) (by omega))
  · have h9 := hq 2 (by omega)
    rw [newF_at] at h9 ⊢
    exact hu.off OLis.nice hoff h9
  · rw [newF_ne F 2 G (by omega)]; exact (h.vis.off ho (hne 3 (by omega))).off hoff (hq' 3 (by omega) (by omega))
  · have h9 := h.mp.keep (ho.block _ h.mp.lt (fun hk => h.apart 4 2 (by omega) _ ((h.m4 _).2 rfl) hk))
    exact h9.keep (hoff.block _ h9.lt (hq' 4 (by omega) (by omega) _ ((h.m4 _).2 rfl)))
  · rw [newF_ne F 2 G (by omega)]; exact h.m4
  · rw [newF_ne F 2 G (by omega)]; exact (h.cel.off ho (hne 5 (by omega))).off hoff (hq' 5 (by omega) (by omega))
  · intro j k hk
    unfold newF at hk
    by_cases e : j = 2
    · omega
    · rw [if_neg e] at hk; exact h.six j k hk
  · intro j k hk
    unfold newF at hk
    by_cases e : j = 2
    · rw [if_pos e] at hk
      rcases hG k hk with h9 | h9
      · exact h.base 2 k h9
      · omega
    · rw [if_neg e] at hk; exact h.base j k hk
theorem GoodS.start {f : FuncD} {i : InputD} {fuel : Nat} (hc : checkF f = 0) : GoodS f fuel (startS f i) := by
  refine ⟨?_, ?_, fun a ha => ?_, Nat.zero_le _, Nat.le_refl _, Nat.zero_le _, ?_, fun id ht => ?_⟩
  · show ((List.range f.arrays.toNat).map _).length = _
    rw [List.length_map, List.length_range]
  · show (List.replicate _ _).length = _
    rw [List.length_replicate]
  · obtain ⟨k, -, rfl⟩ := List.mem_map.1 ha
    rw [List.length_take]; omega
  · show (List.replicate _ _).length = _
    rw [List.length_replicate]
  · show argI f i.args id = 0 ∨ argI f i.args id = 1
    unfold argI
    split
    · rename_i h
      have hm : (id, f.params.getD id.toNat 0) ∈ valsF f := by
        unfold valsF parT
        refine List.mem_append_left _ (List.mem_map.2 ⟨(f.params.getD id.toNat 0, id.toNat), ?_, ?_⟩)
        · rw [List.mem_zipIdx_iff_getElem?]
          exact list_at f.params id.toNat (by omega)
        · show (((id.toNat : Nat) : Int), f.params.getD id.toNat 0) = _
          rw [Int.toNat_of_nonneg h.1]
      rw [tyOf_of_mem (vals_nodup hc) hm] at ht
      injection ht with ht
      rw [if_pos ht]
      exact flagI_two _
    · exact .inl rfl
end Go.Proofs.Ytjmikinbdclfbaa
namespace Go.Proofs.Ytjmikinbdclfbaa
set_option linter.unusedSimpArgs false
set_option linter.unusedVariables false
section
open Go.RowKit
end
section
open Go.RowKit
end
section
open Go.RowKit
set_option maxHeartbeats 3200000 in
theorem sameLists {w : World} {u v : Value} {xs ys : List (List Int)} (hu : Lists w u xs) (hv : Lists w v ys) : Calls Try.prog 45 #[u, v] w fun e w' => e = .returned (.bool (decide (xs = ys))) ∧ Below w.heap.size w w' := by
  obtain ⟨us, a1, c1, b1, o1, rfl, p1, p2, p3, p4, p5, p6⟩ := hu.parts
  obtain ⟨vs, a2, c2, b2, o2, rfl, q1, q2, q3, q4, q5, q6⟩ := hv.parts
  obtain ⟨n1, hn1⟩ : ∃ n, n = xs.length := ⟨_, rfl⟩
  obtain ⟨n2, hn2⟩ : ∃ n, n = ys.length := ⟨_, rfl⟩
  rw [← hn1] at p1 p3 p4 ⊢
  rw [← hn2] at q1 q3 q4 ⊢
  have HN1 := Lib.hid hn1
  have HN2 := Lib.hid hn2
  have P4 := Lib.hid p4
  have P5 := Lib.hid p5
  have P6 := Lib.hid p6
  have Q4 := Lib.hid q4
  have Q5 := Lib.hid q5
  have Q6 := Lib.hid q6
  clear hu hv hn1 hn2 p4 p5 p6 q4 q5 q6
  have HW := Lib.hid (Below.refl w.heap.size w)
  by_cases hne : n1 = n2
  · subst hne
    go_enter Try.func45, Try.ntmps45
    go_wp2_with fail
    go_loopw [5] (fun i wr => ∃ k : Nat, k ≤ n1 ∧ i = .int .i64 k ∧ (∀ j, j < k → xs.getD j [] = ys.getD j []) ∧ Below w.heap.size w wr) (fun i _ => n1 - (intOf i).toNat)
    case atStart => exact ⟨0, Nat.zero_le _, rfl, fun j h => absurd h (Nat.not_lt_zero _), HW.out⟩
    case round =>
      obtain ⟨k, hk, rfl, hs, hW⟩ := hrel
      have HS := Lib.hid hs
      replace HW := Lib.hid hW
      clear hs hW
      by_cases hlt : k < n1
      · obtain ⟨rfl, hb1⟩ := P4.out (by omega)
        obtain ⟨rfl, hb2⟩ := Q4.out (by omega)
        have HX := Lib.hid (P6.out k (by have := HN1.out; omega))
        have HY := Lib.hid (Q6.out k (by have := HN2.out; omega))
        have C1 := Lib.hid ((HW.out.cell (p := ⟨b1, o1 + k, none⟩) hb1).trans (P5.out k (by have := HN1.out; omega)))
        have C2 := Lib.hid ((HW.out.cell (p := ⟨b2, o2 + k, none⟩) hb2).trans (Q5.out k (by have := HN2.out; omega)))
        have C1l := World.block_lt_of_cell? wr _ C1.out
        have C2l := World.block_lt_of_cell? wr _ C2.out
        obtain ⟨c, hc⟩ : ∃ c, c = decide (xs.getD k [] = ys.getD k []) := ⟨_, rfl⟩
        have HCC := Lib.hid hc
        have HCT : Hid (∀ w4, Below wr.heap.size wr w4 → Calls Try.prog 30 #[us.getD k undef, vs.getD k undef] w4 fun e w' => e = .returned (.bool c) ∧ Below w4.heap.size w4 w') := Lib.hid (fun w4 hb => by
          rw [hc]
          exact sameB ((HX.out.below HW.out).below hb) ((HY.out.below HW.out).below hb))
        clear hc
        have hfx := (HX.out).form
        have hfy := (HY.out).form
        generalize us.getD k undef = uk at *
        generalize vs.getD k undef = vk at *
        obtain ⟨xa, xc, rfl⟩ := hfx
        obtain ⟨ya, yc, rfl⟩ := hfy
        go_upto_region 6 with (fail)


        refine wp_region_grow 10 (fun kz => match kz with | 8 => .const (.bool c) | _ => .plain) (by kernel_rfl) (by kernel_rfl) ?_ (fun ν => ?_)
        · (intro k; (try dsimp only); split <;> first | exact True.intro | (intro u w1 w2 hu hb; exact hu.below hb))
        simp only [List.take_succ_cons, List.take_zero, List.drop_succ_cons, List.drop_zero]
        iterate 8 (refine Grow.val (v := ?_) rfl rfl (fun wg hbg hdg => ?_) ?_; rotate_left; (focus ((have hc19 := (hbg.cell (p := ⟨b1, o1 + k, none⟩) C1l).trans C1.out; have hc29 := (hbg.cell (p := ⟨b2, o2 + k, none⟩) C2l).trans C2.out); clear hbg hdg; first | (go_simp; done) | (go_simp; with_reducible rfl))); simp only [Act.put, List.setIfInBounds_toArray, List.set_cons_zero, List.set_cons_succ])
        refine Grow.call (f := ?_) (args := ?_) rfl (fun wg => ?_) (fun wg hbg hdg => ?_) ?_
        rotate_left 2
        focus (first | (go_simp; done) | (go_simp; refine And.intro ?_ ?_ <;> with_reducible rfl) | (go_simp; with_reducible rfl))
        focus exact Calls.mono (HCT.out wg hbg) (fun e w2 ⟨he, hb2⟩ => ⟨_, he, rfl, hb2⟩)
        simp only [Act.put, Known.val, List.setIfInBounds_toArray, List.set_cons_zero, List.set_cons_succ]
        refine Grow.val (v := ?_) rfl rfl (fun wg hbg hdg => ?_) ?_
        rotate_left
        focus ((have hc19 := (hbg.cell (p := ⟨b1, o1 + k, none⟩) C1l).trans C1.out; have hc29 := (hbg.cell (p := ⟨b2, o2 + k, none⟩) C2l).trans C2.out); clear hbg hdg; first | (go_simp; done) | (go_simp; with_reducible rfl))
        simp only [Act.put, List.setIfInBounds_toArray, List.set_cons_zero, List.set_cons_succ]
        intro wg hb hf hap
        clear hap
        replace HW := Lib.hid (HW.out.trans (hb.mono HW.out.size))
        clear hb
        clear hf
        cases c
        · have hno : xs.getD k [] ≠ ys.getD k [] := by have := HCC.out; simpa using this
          have HNO := Lib.hid hno
          clear hno
          go_wp2
          go_ret
          exact ⟨ret_bool (decide_eq_false (fun e => HNO.out (by rw [e]))).symm, HW.out⟩
        · have HYS : Hid (xs.getD k [] = ys.getD k []) := Lib.hid (by have := HCC.out; simpa using this)
          go_wp2
          go_roundw
          case rel => exact ⟨k + 1, hlt, by go_num, fun j hj => by
              by_cases e : j = k
              · subst e; exact HYS.out
              · exact HS.out j (by omega), HW.out⟩
          case measure => simp [intOf]; omega
      · have hkn : k = n1 := by omega
        have HEQ : Hid (xs = ys) := Lib.hid (by
          apply List.ext_getElem?
          intro j
          have h1 := HN1.out
          have h2 := HN2.out
          by_cases hj : j < n1
          · have h3 := HS.out j (by omega)
            rw [List.getD_eq_getElem?_getD, List.getD_eq_getElem?_getD] at h3
            obtain ⟨x, hx⟩ : ∃ x, xs[j]? = some x := ⟨_, List.getElem?_eq_getElem (by omega)⟩
            obtain ⟨y, hy⟩ : ∃ y, ys[j]? = some y := ⟨_, List.getElem?_eq_getElem (by omega)⟩
            rw [hx, hy] at h3 ⊢
            simp at h3; rw [h3]
          · rw [List.getElem?_eq_none (by omega), List.getElem?_eq_none (by omega)])
        go_wp2
        go_ret
        exact ⟨ret_bool (decide_eq_true HEQ.out).symm, HW.out⟩
  · skip
    go_enter Try.func45, Try.ntmps45
    go_wp2
    go_ret
    exact ⟨ret_bool (decide_eq_false (fun e => hne (by rw [HN1.out, HN2.out, e]))).symm, HW.out⟩
end
end Go.Proofs.Ytjmikinbdclfbaa
namespace Go.Proofs.Ytjmikinbdclfbaa
set_option linter.unusedSimpArgs false
set_option linter.unusedVariables false
open Go.RowKit
private theorem Since.alloc {w0 W : World} (h : Since w0 W) (o : Obj) : Since w0 (W.alloc o) := h.later ((Below.refl _ _).alloc (Nat.le_refl _) o)
end Go.Proofs.Ytjmikinbdclfbaa
namespace Go.Proofs.Ytjmikinbdclfbaa
set_option linter.unusedSimpArgs false
set_option linter.unusedVariables false
open Go.RowKit
set_option maxHeartbeats 3200000 in
theorem eqInts {w : World} {u v : Value} {xs ys : List Int} (hu : Ints w u xs) (hv : Ints w v ys) : Calls Try.prog 70 #[u, v] w fun e w' => e = .returned (.bool (decide (xs = ys))) ∧ Below w.heap.size w w' := by
  obtain ⟨a1, c1, b1, o1, rfl, hc1, hm1, ha1, hx⟩ := hu.parts
  obtain ⟨a2, c2, b2, o2, rfl, hc2, hm2, ha2, hy⟩ := hv.parts
  obtain ⟨n1, hn1⟩ : ∃ n, n = xs.length := ⟨_, rfl⟩
  obtain ⟨n2, hn2⟩ : ∃ n, n = ys.length := ⟨_, rfl⟩
  rw [← hn1] at hc1 ha1 hx ⊢
  rw [← hn2] at hc2 ha2 hy ⊢
  have G1 := Lib.hid hn1
  have G2 := Lib.hid hn2
  have HA1 := Lib.hid ha1
  have HA2 := Lib.hid ha2
  have HX := Lib.hid hx
  have HY := Lib.hid hy
  have HW := Lib.hid (Below.refl w.heap.size w)
  clear hu hv hn1 hn2 ha1 ha2 hx hy
  by_cases hne : n1 = n2
  · subst hne
    go_enter Try.func70, Try.ntmps70
    go_wp2_with fail
    go_loopw [13] (fun i wr => ∃ k : Nat, k ≤ n1 ∧ i = .int .i64 k ∧ (∀ j, j < k → xs.getD j 0 = ys.getD j 0) ∧ Below w.heap.size w wr) (fun i _ => n1 - (intOf i).toNat)
    case atStart => exact ⟨0, Nat.zero_le _, rfl, fun j h => absurd h (Nat.not_lt_zero _), HW.out⟩
    case round =>
      obtain ⟨k, hk, rfl, hs, hW⟩ := hrel
      have HS := Lib.hid hs
      replace HW := Lib.hid hW
      clear hs hW
      generalize wr = w3 at *
      by_cases hlt : k < n1
      · obtain ⟨rfl, hb1⟩ := HA1.out (by omega)
        obtain ⟨rfl, hb2⟩ := HA2.out (by omega)
        have hxk := (HW.out.cell (p := ⟨b1, o1 + k, none⟩) hb1).trans (HX.out k hlt)
        have hyk := (HW.out.cell (p := ⟨b2, o2 + k, none⟩) hb2).trans (HY.out k hlt)
        obtain ⟨p, hp⟩ : ∃ p, p = xs.getD k 0 := ⟨_, rfl⟩
        obtain ⟨q, hq⟩ : ∃ q, q = ys.getD k 0 := ⟨_, rfl⟩
        rw [← hp] at hxk
        rw [← hq] at hyk
        have H3 := Lib.hid hp
        have H4 := Lib.hid hq
        clear hp hq
        cases hpq : (p != q)
        · have HPQ := Lib.hid hpq
          go_upto_region 6 with (fail)
          go_quiet (fail)
          go_wp2
          go_roundw
          case rel =>
            refine ⟨k + 1, hlt, by go_num, ?_, below_drewN HW.out _⟩
            intro j hj
            by_cases e : j = k
            · subst e
              have := HPQ.out
              simp at this
              rw [← H3.out, ← H4.out, this]
            · exact HS.out j (by omega)
          case measure => simp [intOf]; omega
        · have HPQ := Lib.hid hpq
          go_upto_region 6 with (fail)
          go_quiet (fail)
          go_wp2
          go_ret
          exact ⟨ret_bool (decide_eq_false (fun e => by
            have := HPQ.out
            simp at this
            exact this (by rw [H3.out, H4.out, e]))).symm, below_drewN HW.out _⟩
      · have hkn : k = n1 := by omega
        have HEQ : Hid (xs = ys) := Lib.hid (list_eq (by rw [← G1.out, ← G2.out]) (by rw [← G1.out, ← hkn]; exact HS.out))
        clear hkn
        go_wp2
        go_ret
        exact ⟨ret_bool (decide_eq_true HEQ.out).symm, HW.out⟩
  · have hq : ((n1 : Int) != (n2 : Int)) = true := by simp; omega
    have HNE := Lib.hid hne
    clear hne
    go_enter Try.func70, Try.ntmps70
    go_wp2
    go_ret
    exact ⟨ret_bool (decide_eq_false (fun e => HNE.out (by rw [G1.out, G2.out, e]))).symm, HW.out⟩
set_option maxHeartbeats 3200000 in
theorem idxFunI {w : World} {v : Value} {xs : List Int} {k : FuncId} {cap : Array Value} (eg : Enters Try.prog k) (p : Int → Bool) (hv : Ints w v xs)
    (hstep : ∀ (W : World) (x : Int), x ∈ xs → Below w.heap.size w W → Calls Try.prog k (#[.int .i64 x] ++ cap) W fun e W' => e = .returned (.bool (p x)) ∧ Below W.heap.size W W') :
    Calls Try.prog 99 #[v, .func (.func k) #[] cap] w fun e w' => ∃ r : Int, e = .returned (.int .i64 r) ∧ decide (0 ≤ r) = xs.any p ∧ Below w.heap.size w w' := by
  obtain ⟨a1, c1, b1, o1, rfl, hc1, hm1, ha1, hx⟩ := hv.parts
  obtain ⟨n1, hn1⟩ : ∃ n, n = xs.length := ⟨_, rfl⟩
  rw [← hn1] at hc1 ha1 hx ⊢
  have G1 := Lib.hid hn1
  have HA1 := Lib.hid ha1
  have HX := Lib.hid hx
  have HW := Lib.hid (Below.refl w.heap.size w)
  have HST := Lib.hid hstep
  clear hv hn1 ha1 hx hstep
  have eg1 : ∀ (args : Array Value) (w : World), (callFunc k args).run Try.prog w = .ok (.enter k args) w := eg
  go_enter Try.func99, Try.ntmps99
  go_wp2_with fail
  go_loopw [8] (fun i wr => ∃ j : Nat, j ≤ n1 ∧ i = .int .i64 j ∧ (xs.take j).any p = false ∧ Below w.heap.size w wr) (fun i _ => n1 - (intOf i).toNat)
  case atStart => exact ⟨0, Nat.zero_le _, rfl, rfl, HW.out⟩
  case round =>
    obtain ⟨j, hj, rfl, hs, hW⟩ := hrel
    have HS := Lib.hid hs
    replace HW := Lib.hid hW
    clear hs hW
    generalize wr = w3 at *
    by_cases hlt : j < n1
    · obtain ⟨rfl, hb1⟩ := HA1.out (by omega)
      have hxk := (HW.out.cell (p := ⟨b1, o1 + j, none⟩) hb1).trans (HX.out j hlt)
      obtain ⟨x, hx⟩ : ∃ x, x = xs.getD j 0 := ⟨_, rfl⟩
      rw [← hx] at hxk
      have hxm : xs[j]? = some x := by rw [hx]; exact list_at xs j (by have := G1.out; omega)
      have HXM := Lib.hid (List.mem_of_getElem? hxm)
      have HTK := Lib.hid (take_snoc xs j x hxm)
      clear hx hxm
      obtain ⟨c, hc⟩ : ∃ c, c = p x := ⟨_, rfl⟩
      have HC := Lib.hid hc
      have HCT := Lib.hid (HST.out w3 x HXM.out HW.out)
      rw [← hc] at HCT
      clear hc
      cases c
      · go_wp2_with (go_at_fn k; refine HCT.out.mono ?_; rintro e w4 ⟨rfl, hb4⟩; have HB4 := Lib.hid hb4; clear hb4)
        have HW4 := Lib.hid (HW.out.trans (HB4.out.mono HW.out.size))
        have HS2 : Hid ((xs.take (j + 1)).any p = false) := Lib.hid (by rw [HTK.out, List.any_append, HS.out]; simp [← HC.out])
        go_roundw
        case rel => exact ⟨j + 1, hlt, by go_num, HS2.out, HW4.out⟩
        case measure => simp [intOf]; omega
      · go_wp2_with (go_at_fn k; refine HCT.out.mono ?_; rintro e w4 ⟨rfl, hb4⟩; have HB4 := Lib.hid hb4; clear hb4)
        have HW4 := Lib.hid (HW.out.trans (HB4.out.mono HW.out.size))
        have HAN : Hid (xs.any p = true) := Lib.hid (by rw [List.any_eq_true]; exact ⟨x, HXM.out, HC.out.symm⟩)
        go_ret
        exact ⟨j, rfl, by rw [HAN.out]; simp, HW4.out⟩
    · have HAN : Hid (xs.any p = false) := Lib.hid (by have h9 := HS.out; rw [List.take_of_length_le (by have := G1.out; omega)] at h9; exact h9)
      go_wp2
      go_ret
      exact ⟨-1, rfl, by rw [HAN.out]; simp, HW.out⟩
set_option maxHeartbeats 1600000 in
theorem contFunI {w : World} {v : Value} {xs : List Int} {k : FuncId} {cap : Array Value} (eg : Enters Try.prog k) (p : Int → Bool) (hv : Ints w v xs)
    (hstep : ∀ (W : World) (x : Int), x ∈ xs → Below w.heap.size w W → Calls Try.prog k (#[.int .i64 x] ++ cap) W fun e W' => e = .returned (.bool (p x)) ∧ Below W.heap.size W W') :
    Calls Try.prog 73 #[v, .func (.func k) #[] cap] w fun e w' => e = .returned (.bool (xs.any p)) ∧ Below w.heap.size w w' := by
  have HC := Lib.hid (idxFunI eg p hv hstep)
  clear hv hstep
  go_enter Try.func73, Try.ntmps73
  go_wp2_with fail
  refine HC.out.mono ?_
  rintro e w2 ⟨r, rfl, hr, hb⟩
  have HR := Lib.hid hr
  have HB := Lib.hid hb
  clear hr hb
  go_wp2
  go_ret
  exact ⟨ret_bool HR.out, HB.out⟩
end Go.Proofs.Ytjmikinbdclfbaa
namespace Go.Proofs.Ytjmikinbdclfbaa
set_option linter.unusedSimpArgs false
set_option linter.unusedVariables false
open Go.RowKit
theorem usesCEnters : Enters Try.prog 74 := enters_of Try.func74 (by kernel_rfl) rfl
def NotAheadR (f : FuncD) (d k b at_ : Int) (w : World) (e : Ending) (w' : World) : Prop := ∃ r : Bool, e = .returned (.bool r) ∧ (r = true ↔ ¬ AheadP f d k b at_) ∧ Below w.heap.size w w'
set_option maxHeartbeats 3200000 in
theorem usesC {f : FuncD} {w : World} {bs bt bg lg lcap bm : Nat} {g : Array Value} {pv ov lv A2 : Value} {O : List Nat} {I : Nat → Option Nat} (hS : StrM f w bs bt bg lg lcap bm g pv ov lv A2 O I) (hO : IsOrder f O) (hD : DomI f O I) (hc : checkF f = 0)
    {id d k b at_ : Int} {b1 b2 b3 : Nat} (he : ((entF f).find? fun e => e.1 == id) = some (id, d, k)) (hd : 0 ≤ d ∧ d < (f.blocks.length : Int)) (hb : 0 ≤ b ∧ b < (f.blocks.length : Int))
    (h1 : Box w b1 #[.pointer (some ⟨bs, 0, none⟩)]) (h2 : Box w b2 #[.int .i64 b]) (h3 : Box w b3 #[.int .i64 at_]) :
    Calls Try.prog 74 #[.int .i64 id, .pointer (some ⟨b1, 0, none⟩), .pointer (some ⟨b2, 0, none⟩), .pointer (some ⟨b3, 0, none⟩)] w (NotAheadR f d k b at_ w) := by
  have HA := Lib.hid (ahead hS hO hD hc (at_ := at_) he hd hb)
  obtain ⟨l1, c1, f1⟩ := h1
  obtain ⟨l2, c2, f2⟩ := h2
  obtain ⟨l3, c3, f3⟩ := h3
  clear hS hO hD hc he hd hb
  go_enter Try.func74, Try.ntmps74
  go_wp2_with fail
  refine HA.out.mono ?_
  rintro e w2 ⟨r, rfl, hr, hb⟩
  have HR := Lib.hid hr
  have HB := Lib.hid hb
  clear hr hb
  cases r
  · go_wp2
    go_ret
    exact ⟨true, rfl, ⟨(fun _ h => by have := HR.out.2 h; simp at this), (fun _ => rfl)⟩, HB.out⟩
  · go_wp2
    go_ret
    exact ⟨false, rfl, ⟨(fun h => by cases h), (fun h => absurd (HR.out.1 (by trivial)) h)⟩, HB.out⟩
end Go.Proofs.Ytjmikinbdclfbaa
