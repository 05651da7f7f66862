/- Of spans that hold others, sums, products and joins hold theirs. -/
import Derived.Test.YtppnmdplojemcaaSpan15
namespace Go.Proofs.Ytppnmdplojemcaa
set_option linter.unusedSimpArgs false
set_option linter.unusedVariables false
open Go.RowKit

/-- X holds a. -/
def Sub (X a : Sp) : Prop := a.none = true ∨ (X.lo ≤ a.lo ∧ a.hi ≤ X.hi)
theorem hold1B_of {X a : Sp} (h : Sub X a) : hold1B X a = true := by
  unfold hold1B
  rcases h with h | ⟨h1, h2⟩
  · rw [h]; rfl
  · simp [h1, h2]
theorem sub_of_ends {X a : Sp} (h : a.none = false → inB X a.lo = true ∧ inB X a.hi = true) : Sub X a := by
  cases hn : a.none
  · obtain ⟨h1, h2⟩ := h hn
    rw [inB_iff] at h1 h2
    exact .inr ⟨h1.1, h2.2⟩
  · exact .inl hn
theorem Sub.none {X a : Sp} (h : Sub X a) (ha : a.none = false) : X.none = false := by
  rcases h with h | h
  · rw [h] at ha; cases ha
  · rw [some_iff] at *; omega
theorem Sub.has {X a : Sp} (h : Sub X a) {x : Int} (hx : inB a x = true) : inB X x = true := by
  rw [inB_iff] at *
  rcases h with h | h
  · have : ¬ a.none = false := by rw [h]; simp
    rw [some_iff] at this; omega
  · omega
theorem ends_in {a : Sp} (ha : a.none = false) : inB a a.lo = true ∧ inB a a.hi = true := by
  rw [some_iff] at ha
  rw [inB_iff, inB_iff]; omega
theorem join_sub {l : List Sp} {a : Sp} (h : a ∈ l) : Sub (joinL l) a := sub_of_ends fun ha => ⟨join_in h (ends_in ha).1, join_in h (ends_in ha).2⟩
theorem join_sub_of {l : List Sp} {a b : Sp} (h : a ∈ l) (hb : Sub a b) : Sub (joinL l) b :=
  sub_of_ends fun hn => ⟨join_in h (hb.has (ends_in hn).1), join_in h (hb.has (ends_in hn).2)⟩
theorem none_none : Sp.none ⟨0, -1⟩ = true := by decide
theorem addQ_sub {X Y a b : Sp} (hx : Sub X a) (hy : Sub Y b) (oX : X.ok) (oY : Y.ok) (oa : a.ok) (ob : b.ok) : Sub (addQ X Y) (addQ a b) := by
  cases ha : a.none
  · cases hb : b.none
    · have hX := hx.none ha
      have hY := hy.none hb
      have h1 := hx.resolve_left (by rw [ha]; simp)
      have h2 := hy.resolve_left (by rw [hb]; simp)
      have hq := addQ_ok a b
      right
      unfold addQ at *
      simp only [ha, hb, hX, hY, Bool.or_self, Bool.false_eq_true, if_false] at hq ⊢
      rw [some_iff] at ha hb
      obtain ⟨⟨a1, a2⟩, a3, a4⟩ := oX
      obtain ⟨⟨b1, b2⟩, b3, b4⟩ := oY
      by_cases e : offI (X.lo + Y.lo) = offI (X.hi + Y.hi)
      · rw [if_pos e]
        have e2 : offI (a.lo + b.lo) = offI (a.hi + b.hi) := by unfold offI wrap64 at *; omega
        rw [if_pos e2]
        simp only
        unfold offI at e
        unfold wrap64 at *; omega
      · rw [if_neg e]
        obtain ⟨⟨c1, c2⟩, c3, c4⟩ := hq
        simp only
        omega
    · exact .inl (by unfold addQ; rw [hb]; simp [none_none])
  · exact .inl (by unfold addQ; rw [ha]; simp [none_none])
theorem subQ_sub {X Y a b : Sp} (hx : Sub X a) (hy : Sub Y b) (oX : X.ok) (oY : Y.ok) (oa : a.ok) (ob : b.ok) : Sub (subQ X Y) (subQ a b) := by
  cases ha : a.none
  · cases hb : b.none
    · have hX := hx.none ha
      have hY := hy.none hb
      have h1 := hx.resolve_left (by rw [ha]; simp)
      have h2 := hy.resolve_left (by rw [hb]; simp)
      have hq := subQ_ok a b
      right
      unfold subQ at *
      simp only [ha, hb, hX, hY, Bool.or_self, Bool.false_eq_true, if_false] at hq ⊢
      rw [some_iff] at ha hb
      obtain ⟨⟨a1, a2⟩, a3, a4⟩ := oX
      obtain ⟨⟨b1, b2⟩, b3, b4⟩ := oY
      by_cases e : offI (X.lo - Y.hi) = offI (X.hi - Y.lo)
      · rw [if_pos e]
        have e2 : offI (a.lo - b.hi) = offI (a.hi - b.lo) := by unfold offI wrap64 at *; omega
        rw [if_pos e2]
        simp only
        unfold offI at e
        unfold wrap64 at *; omega
      · rw [if_neg e]
        obtain ⟨⟨c1, c2⟩, c3, c4⟩ := hq
        simp only
        omega
    · exact .inl (by unfold subQ; rw [hb]; simp [none_none])
  · exact .inl (by unfold subQ; rw [ha]; simp [none_none])
theorem fold_sub (J : Sp) (l : List Sp) (o : Sp) (ho : Sub J o) (hl : ∀ p ∈ l, Sub J p) : Sub J (l.foldl joinStep o) := by
  induction l generalizing o with
  | nil => exact ho
  | cons s l ih =>
    refine ih _ ?_ fun p hp => hl p (by simp [hp])
    have hs := hl s (by simp)
    unfold joinStep
    cases h1 : s.none
    · cases h2 : o.none
      · simp only [Bool.false_eq_true, if_false]
        have k1 := hs.resolve_left (by rw [h1]; simp)
        have k2 := ho.resolve_left (by rw [h2]; simp)
        right
        simp only
        (repeat' split) <;> omega
      · simpa using hs
    · simpa using ho
theorem mulS_sub {X Y a b : Sp} (hx : Sub X a) (hy : Sub Y b) (oa : a.ok) (ob : b.ok) : Sub (mulS X Y) (mulS a b) := by
  cases ha : a.none
  · cases hb : b.none
    · have hX := hx.none ha
      have hY := hy.none hb
      have hq := mulS_ok a b
      have hQ := mulS_ok X Y
      have kx := ends_in ha
      have ky := ends_in hb
      cases hf : fitB X.lo Y.lo && fitB X.lo Y.hi && fitB X.hi Y.lo && fitB X.hi Y.hi
      · have e : mulS X Y = ⟨-9223372036854775808, 9223372036854775807⟩ := by unfold mulS; rw [hX, hY, hf]; rfl
        rw [e]
        obtain ⟨⟨c1, c2⟩, c3, c4⟩ := hq
        exact .inr ⟨c1, c4⟩
      · have e : mulS X Y = joinL (prL X Y 4) := by unfold mulS; rw [hX, hY, hf]; rfl
        rw [e] at hQ ⊢
        have hin : ∀ k, k < 4 → inB (joinL (prL X Y 4)) (pr a b k) = true := fun k hk => by
          match k, hk with
          | 0, _ => exact prod_in (hx.has kx.1) (hy.has ky.1)
          | 1, _ => exact prod_in (hx.has kx.1) (hy.has ky.2)
          | 2, _ => exact prod_in (hx.has kx.2) (hy.has ky.1)
          | 3, _ => exact prod_in (hx.has kx.2) (hy.has ky.2)
        have h64 : prF a b 4 := fun k hk => by
          have := hin k hk
          rw [inB_iff] at this
          obtain ⟨⟨o1, o2⟩, o3, o4⟩ := hQ
          exact ⟨by omega, by omega⟩
        rw [mulS_yes (by rw [ha, hb]; rfl) h64]
        refine fold_sub _ _ _ (.inl none_none) fun p hp => ?_
        simp only [prL, List.mem_map, List.mem_range] at hp
        obtain ⟨k, hk, rfl⟩ := hp
        exact sub_of_ends fun _ => ⟨hin k hk, hin k hk⟩
    · exact .inl (by unfold mulS; rw [hb]; simp [none_none])
  · exact .inl (by unfold mulS; rw [ha]; simp [none_none])
theorem meet_sub (a b : Sp) (oa : a.ok) : Sub a (meetS [a, b]) := by
  obtain ⟨⟨a1, a2⟩, a3, a4⟩ := oa
  unfold meetS
  split
  · exact .inl none_none
  · right
    have e : meetL [a, b] = meetStep (meetStep allS a) b := rfl
    rw [e]
    unfold meetStep allS
    simp only
    (repeat' split) <;> omega

theorem lawHoldsT {w : World} {s t : Sp} (h : Sub s t) : Calls Try.prog 24 #[.agg #[.int .i64 s.lo, .int .i64 s.hi], .agg #[.int .i64 t.lo, .int .i64 t.hi]] w fun e w' => e = .returned (.bool true) ∧ Below w.heap.size w w' := by
  have := lawHolds1 (w := w) s t
  rw [hold1B_of h] at this
  exact this

set_option maxRecDepth 100000 in
set_option maxHeartbeats 12800000 in
theorem walkGrows {w : World} (a b c d : Sp) (ha : a.ok) (hb : b.ok) (hc : c.ok) (hd : d.ok) : Calls Try.prog 8 #[a.val, b.val, c.val, d.val] w fun e w' => e = .returned (.bool true) ∧ Below w.heap.size w w' := by
  have HA := Lib.hid ha
  have HB := Lib.hid hb
  have HC := Lib.hid hc
  have HD := Lib.hid hd
  have oX : (joinL [a, c]).ok := joinL_ok _ (by intro p hp; simp at hp; rcases hp with rfl | rfl <;> assumption)
  have oY : (joinL [b, d]).ok := joinL_ok _ (by intro p hp; simp at hp; rcases hp with rfl | rfl <;> assumption)
  have sX : Sub (joinL [a, c]) a := join_sub (by simp)
  have sY : Sub (joinL [b, d]) b := join_sub (by simp)
  have C1 := Lib.hid (fun w : World => addS_eq _ _ oX oY ▸ spanAdd (w := w) _ _ oX oY)
  have C2 := Lib.hid (fun w : World => addS_eq a b ha hb ▸ spanAdd (w := w) a b ha hb)
  have C3 := Lib.hid (fun w : World => subS_eq _ _ oX oY ▸ spanSub (w := w) _ _ oX oY)
  have C4 := Lib.hid (fun w : World => subS_eq a b ha hb ▸ spanSub (w := w) a b ha hb)
  have C5 := Lib.hid (fun w : World => spanMul (w := w) _ _ oX oY)
  have C6 := Lib.hid (fun w : World => spanMul (w := w) a b ha hb)
  have I1 := Lib.hid (addQ_sub sX sY oX oY ha hb)
  have I2 := Lib.hid (subQ_sub sX sY oX oY ha hb)
  have I3 := Lib.hid (mulS_sub sX sY ha hb)
  have I4 := Lib.hid sX
  have I5 := Lib.hid (join_sub_of (l := [joinL [a, c], joinL [b, d]]) (by simp) sY)
  have I6 := Lib.hid (meet_sub a b ha)
  have OX := Lib.hid oX
  have OY := Lib.hid oY
  have J1 := Lib.hid (fun (w : World) {v : Value} (h : Spans w v [a, c]) => spanJoin h)
  have J2 := Lib.hid (fun (w : World) {v : Value} (h : Spans w v [b, d]) => spanJoin h)
  clear ha hb hc hd oX oY sX sY
  generalize joinL [a, c] = X at *
  generalize joinL [b, d] = Y at *
  unfold Sp.val at C1 C2 C3 C4 C5 C6 J1 J2 ⊢
  go_enter Try.func8, Try.ntmps8
  go_upto_region 1 with (fail)
  have B4 : Hid (Box ((((w.alloc (.cells #[.int .i64 a.lo, .int .i64 a.hi] 23)).alloc (.cells #[.int .i64 b.lo, .int .i64 b.hi] 23)).alloc (.cells #[.int .i64 c.lo, .int .i64 c.hi] 23)).alloc (.cells #[.int .i64 d.lo, .int .i64 d.hi] 23)) (w.heap.size) #[.int .i64 a.lo, .int .i64 a.hi]) := Lib.hid (by simpa using ((((Box.new w #[.int .i64 a.lo, .int .i64 a.hi] 23).alloc _).alloc _).alloc _))
  have B5 : Hid (Box ((((w.alloc (.cells #[.int .i64 a.lo, .int .i64 a.hi] 23)).alloc (.cells #[.int .i64 b.lo, .int .i64 b.hi] 23)).alloc (.cells #[.int .i64 c.lo, .int .i64 c.hi] 23)).alloc (.cells #[.int .i64 d.lo, .int .i64 d.hi] 23)) (w.heap.size + 1) #[.int .i64 b.lo, .int .i64 b.hi]) := Lib.hid (by simpa using (((Box.new (w.alloc (.cells #[.int .i64 a.lo, .int .i64 a.hi] 23)) #[.int .i64 b.lo, .int .i64 b.hi] 23).alloc _).alloc _))
  have B6 : Hid (Box ((((w.alloc (.cells #[.int .i64 a.lo, .int .i64 a.hi] 23)).alloc (.cells #[.int .i64 b.lo, .int .i64 b.hi] 23)).alloc (.cells #[.int .i64 c.lo, .int .i64 c.hi] 23)).alloc (.cells #[.int .i64 d.lo, .int .i64 d.hi] 23)) (w.heap.size + 1 + 1) #[.int .i64 c.lo, .int .i64 c.hi]) := Lib.hid (by simpa using ((Box.new ((w.alloc (.cells #[.int .i64 a.lo, .int .i64 a.hi] 23)).alloc (.cells #[.int .i64 b.lo, .int .i64 b.hi] 23)) #[.int .i64 c.lo, .int .i64 c.hi] 23).alloc _))
  have B7 : Hid (Box ((((w.alloc (.cells #[.int .i64 a.lo, .int .i64 a.hi] 23)).alloc (.cells #[.int .i64 b.lo, .int .i64 b.hi] 23)).alloc (.cells #[.int .i64 c.lo, .int .i64 c.hi] 23)).alloc (.cells #[.int .i64 d.lo, .int .i64 d.hi] 23)) (w.heap.size + 1 + 1 + 1) #[.int .i64 d.lo, .int .i64 d.hi]) := Lib.hid (by simpa using (Box.new (((w.alloc (.cells #[.int .i64 a.lo, .int .i64 a.hi] 23)).alloc (.cells #[.int .i64 b.lo, .int .i64 b.hi] 23)).alloc (.cells #[.int .i64 c.lo, .int .i64 c.hi] 23)) #[.int .i64 d.lo, .int .i64 d.hi] 23))
  have HW : Hid (Below w.heap.size w ((((w.alloc (.cells #[.int .i64 a.lo, .int .i64 a.hi] 23)).alloc (.cells #[.int .i64 b.lo, .int .i64 b.hi] 23)).alloc (.cells #[.int .i64 c.lo, .int .i64 c.hi] 23)).alloc (.cells #[.int .i64 d.lo, .int .i64 d.hi] 23))) := Lib.hid (((((Below.refl _ _).alloc (Nat.le_refl _) _).alloc (by simp) _).alloc (by simp; omega) _).alloc (by simp; omega) _)
  generalize ((((w.alloc (.cells #[.int .i64 a.lo, .int .i64 a.hi] 23)).alloc (.cells #[.int .i64 b.lo, .int .i64 b.hi] 23)).alloc (.cells #[.int .i64 c.lo, .int .i64 c.hi] 23)).alloc (.cells #[.int .i64 d.lo, .int .i64 d.hi] 23)) = wv at *
  obtain ⟨lB4, cB4, fB4⟩ := B4.out
  obtain ⟨lB5, cB5, fB5⟩ := B5.out
  obtain ⟨lB6, cB6, fB6⟩ := B6.out
  obtain ⟨lB7, cB7, fB7⟩ := B7.out
  refine wp_region_grow 10 (fun k => match k with | 2 => .made wv.heap.size (fun b => .slice (some ⟨b, 0, none⟩) 2 2) #[.int .i64 a.lo, .int .i64 a.hi, .int .i64 c.lo, .int .i64 c.hi] | 3 => .const (.agg #[.int .i64 X.lo, .int .i64 X.hi]) | 6 => .made wv.heap.size (fun b => .slice (some ⟨b, 0, none⟩) 2 2) #[.int .i64 b.lo, .int .i64 b.hi, .int .i64 d.lo, .int .i64 d.hi] | 7 => .const (.agg #[.int .i64 Y.lo, .int .i64 Y.hi]) | 8 => .made wv.heap.size (fun b => .pointer (some ⟨b, 0, none⟩)) #[.int .i64 0, .int .i64 0] | 9 => .made wv.heap.size (fun b => .pointer (some ⟨b, 0, none⟩)) #[.int .i64 0, .int .i64 0] | _ => .plain) (by kernel_rfl) (by kernel_rfl) ?_ (fun ν => ?_)
  · (intro k; (try dsimp only); split <;> first | exact True.intro | (intro u w1 w2 hu hb; exact hu.below hb))
  simp only [List.take_succ_cons, List.take_zero, List.drop_succ_cons, List.drop_zero]
  refine Grow.val (v := ?_) rfl rfl (fun wg hbg hdg => ?_) ?_
  rotate_left
  focus ((obtain ⟨lg0, cg0, fg0⟩ := B4.out.later hbg); (obtain ⟨lg1, cg1, fg1⟩ := B5.out.later hbg); (obtain ⟨lg2, cg2, fg2⟩ := B6.out.later hbg); (obtain ⟨lg3, cg3, fg3⟩ := B7.out.later hbg); clear hbg hdg; first | (go_simp; done) | (go_simp; with_reducible rfl))
  simp only [Act.put, List.setIfInBounds_toArray, List.set_cons_zero, List.set_cons_succ]
  refine Grow.val (v := ?_) rfl rfl (fun wg hbg hdg => ?_) ?_
  rotate_left
  focus ((obtain ⟨lg0, cg0, fg0⟩ := B4.out.later hbg); (obtain ⟨lg1, cg1, fg1⟩ := B5.out.later hbg); (obtain ⟨lg2, cg2, fg2⟩ := B6.out.later hbg); (obtain ⟨lg3, cg3, fg3⟩ := B7.out.later hbg); clear hbg hdg; first | (go_simp; done) | (go_simp; with_reducible rfl))
  simp only [Act.put, List.setIfInBounds_toArray, List.set_cons_zero, List.set_cons_succ]
  refine Grow.made (T := ?_) rfl rfl (fun wg hbg hdg => ?_) ?_
  rotate_left
  focus ((obtain ⟨lg0, cg0, fg0⟩ := B4.out.later hbg); (obtain ⟨lg1, cg1, fg1⟩ := B5.out.later hbg); (obtain ⟨lg2, cg2, fg2⟩ := B6.out.later hbg); (obtain ⟨lg3, cg3, fg3⟩ := B7.out.later hbg); clear hbg hdg; first | (go_simp; done) | (go_simp; with_reducible rfl))
  simp only [Act.put, Known.val, List.setIfInBounds_toArray, List.set_cons_zero, List.set_cons_succ]
  refine Grow.call (f := ?_) (args := ?_) rfl (fun wg => ?_) (fun wg hbg hdg => ?_) ?_
  rotate_left 2
  focus (first | (go_simp; done) | (go_simp; refine And.intro ?_ ?_ <;> with_reducible rfl) | (go_simp; with_reducible rfl))
  focus ((obtain ⟨bq, hq, _, hX⟩ := hdg 2 (by kernel_rfl)); rw [hq]; exact Calls.mono (J1.out _ (spans_box2 hX HA.out HC.out)) (fun e w2 ⟨he, hb2⟩ => ⟨_, he, rfl, hb2⟩))
  simp only [Act.put, Known.val, List.setIfInBounds_toArray, List.set_cons_zero, List.set_cons_succ]
  refine Grow.val (v := ?_) rfl rfl (fun wg hbg hdg => ?_) ?_
  rotate_left
  focus ((obtain ⟨lg0, cg0, fg0⟩ := B4.out.later hbg); (obtain ⟨lg1, cg1, fg1⟩ := B5.out.later hbg); (obtain ⟨lg2, cg2, fg2⟩ := B6.out.later hbg); (obtain ⟨lg3, cg3, fg3⟩ := B7.out.later hbg); clear hbg hdg; first | (go_simp; done) | (go_simp; with_reducible rfl))
  simp only [Act.put, List.setIfInBounds_toArray, List.set_cons_zero, List.set_cons_succ]
  refine Grow.val (v := ?_) rfl rfl (fun wg hbg hdg => ?_) ?_
  rotate_left
  focus ((obtain ⟨lg0, cg0, fg0⟩ := B4.out.later hbg); (obtain ⟨lg1, cg1, fg1⟩ := B5.out.later hbg); (obtain ⟨lg2, cg2, fg2⟩ := B6.out.later hbg); (obtain ⟨lg3, cg3, fg3⟩ := B7.out.later hbg); clear hbg hdg; first | (go_simp; done) | (go_simp; with_reducible rfl))
  simp only [Act.put, List.setIfInBounds_toArray, List.set_cons_zero, List.set_cons_succ]
  refine Grow.made (T := ?_) rfl rfl (fun wg hbg hdg => ?_) ?_
  rotate_left
  focus ((obtain ⟨lg0, cg0, fg0⟩ := B4.out.later hbg); (obtain ⟨lg1, cg1, fg1⟩ := B5.out.later hbg); (obtain ⟨lg2, cg2, fg2⟩ := B6.out.later hbg); (obtain ⟨lg3, cg3, fg3⟩ := B7.out.later hbg); clear hbg hdg; first | (go_simp; done) | (go_simp; with_reducible rfl))
  simp only [Act.put, Known.val, List.setIfInBounds_toArray, List.set_cons_zero, List.set_cons_succ]
  refine Grow.call (f := ?_) (args := ?_) rfl (fun wg => ?_) (fun wg hbg hdg => ?_) ?_
  rotate_left 2
  focus (first | (go_simp; done) | (go_simp; refine And.intro ?_ ?_ <;> with_reducible rfl) | (go_simp; with_reducible rfl))
  focus ((obtain ⟨bq, hq, _, hX⟩ := hdg 6 (by kernel_rfl)); rw [hq]; exact Calls.mono (J2.out _ (spans_box2 hX HB.out HD.out)) (fun e w2 ⟨he, hb2⟩ => ⟨_, he, rfl, hb2⟩))
  simp only [Act.put, Known.val, List.setIfInBounds_toArray, List.set_cons_zero, List.set_cons_succ]
  refine Grow.made (T := ?_) rfl rfl (fun wg hbg hdg => ?_) ?_
  rotate_left
  focus ((obtain ⟨lg0, cg0, fg0⟩ := B4.out.later hbg); (obtain ⟨lg1, cg1, fg1⟩ := B5.out.later hbg); (obtain ⟨lg2, cg2, fg2⟩ := B6.out.later hbg); (obtain ⟨lg3, cg3, fg3⟩ := B7.out.later hbg); clear hbg hdg; first | (go_simp; done) | (go_simp; with_reducible rfl))
  simp only [Act.put, Known.val, List.setIfInBounds_toArray, List.set_cons_zero, List.set_cons_succ]
  refine Grow.made (T := ?_) rfl rfl (fun wg hbg hdg => ?_) ?_
  rotate_left
  focus ((obtain ⟨lg0, cg0, fg0⟩ := B4.out.later hbg); (obtain ⟨lg1, cg1, fg1⟩ := B5.out.later hbg); (obtain ⟨lg2, cg2, fg2⟩ := B6.out.later hbg); (obtain ⟨lg3, cg3, fg3⟩ := B7.out.later hbg); clear hbg hdg; first | (go_simp; done) | (go_simp; with_reducible rfl))
  simp only [Act.put, Known.val, List.setIfInBounds_toArray, List.set_cons_zero, List.set_cons_succ]
  intro wg hb hf hap
  obtain ⟨bBq, hνBq, hBBq, hXBq⟩ := hf 2 (by omega)
  have nBqB4 : bBq ≠ w.heap.size := fun e => by have := lB4; omega
  have nB4Bq : w.heap.size ≠ bBq := fun e => nBqB4 e.symm
  have nBqB5 : bBq ≠ w.heap.size + 1 := fun e => by have := lB5; omega
  have nB5Bq : w.heap.size + 1 ≠ bBq := fun e => nBqB5 e.symm
  have nBqB6 : bBq ≠ w.heap.size + 1 + 1 := fun e => by have := lB6; omega
  have nB6Bq : w.heap.size + 1 + 1 ≠ bBq := fun e => nBqB6 e.symm
  have nBqB7 : bBq ≠ w.heap.size + 1 + 1 + 1 := fun e => by have := lB7; omega
  have nB7Bq : w.heap.size + 1 + 1 + 1 ≠ bBq := fun e => nBqB7 e.symm
  obtain ⟨bBr, hνBr, hBBr, hXBr⟩ := hf 6 (by omega)
  have nBrB4 : bBr ≠ w.heap.size := fun e => by have := lB4; omega
  have nB4Br : w.heap.size ≠ bBr := fun e => nBrB4 e.symm
  have nBrB5 : bBr ≠ w.heap.size + 1 := fun e => by have := lB5; omega
  have nB5Br : w.heap.size + 1 ≠ bBr := fun e => nBrB5 e.symm
  have nBrB6 : bBr ≠ w.heap.size + 1 + 1 := fun e => by have := lB6; omega
  have nB6Br : w.heap.size + 1 + 1 ≠ bBr := fun e => nBrB6 e.symm
  have nBrB7 : bBr ≠ w.heap.size + 1 + 1 + 1 := fun e => by have := lB7; omega
  have nB7Br : w.heap.size + 1 + 1 + 1 ≠ bBr := fun e => nBrB7 e.symm
  obtain ⟨bB9, hνB9, hBB9, hXB9⟩ := hf 8 (by omega)
  have nB9B4 : bB9 ≠ w.heap.size := fun e => by have := lB4; omega
  have nB4B9 : w.heap.size ≠ bB9 := fun e => nB9B4 e.symm
  have nB9B5 : bB9 ≠ w.heap.size + 1 := fun e => by have := lB5; omega
  have nB5B9 : w.heap.size + 1 ≠ bB9 := fun e => nB9B5 e.symm
  have nB9B6 : bB9 ≠ w.heap.size + 1 + 1 := fun e => by have := lB6; omega
  have nB6B9 : w.heap.size + 1 + 1 ≠ bB9 := fun e => nB9B6 e.symm
  have nB9B7 : bB9 ≠ w.heap.size + 1 + 1 + 1 := fun e => by have := lB7; omega
  have nB7B9 : w.heap.size + 1 + 1 + 1 ≠ bB9 := fun e => nB9B7 e.symm
  obtain ⟨bB10, hνB10, hBB10, hXB10⟩ := hf 9 (by omega)
  have nB10B4 : bB10 ≠ w.heap.size := fun e => by have := lB4; omega
  have nB4B10 : w.heap.size ≠ bB10 := fun e => nB10B4 e.symm
  have nB10B5 : bB10 ≠ w.heap.size + 1 := fun e => by have := lB5; omega
  have nB5B10 : w.heap.size + 1 ≠ bB10 := fun e => nB10B5 e.symm
  have nB10B6 : bB10 ≠ w.heap.size + 1 + 1 := fun e => by have := lB6; omega
  have nB6B10 : w.heap.size + 1 + 1 ≠ bB10 := fun e => nB10B6 e.symm
  have nB10B7 : bB10 ≠ w.heap.size + 1 + 1 + 1 := fun e => by have := lB7; omega
  have nB7B10 : w.heap.size + 1 + 1 + 1 ≠ bB10 := fun e => nB10B7 e.symm
  have nBqBr : bBq ≠ bBr := fun e => hap 2 6 (by omega) (by omega) (by omega) rfl rfl (by rw [hνBq, hνBr, e])
  have nBqB9 : bBq ≠ bB9 := fun e => hap 2 8 (by omega) (by omega) (by omega) rfl rfl (by rw [hνBq, hνB9, e])
  have nBqB10 : bBq ≠ bB10 := fun e => hap 2 9 (by omega) (by omega) (by omega) rfl rfl (by rw [hνBq, hνB10, e])
  have nBrBq : bBr ≠ bBq := fun e => hap 6 2 (by omega) (by omega) (by omega) rfl rfl (by rw [hνBr, hνBq, e])
  have nBrB9 : bBr ≠ bB9 := fun e => hap 6 8 (by omega) (by omega) (by omega) rfl rfl (by rw [hνBr, hνB9, e])
  have nBrB10 : bBr ≠ bB10 := fun e => hap 6 9 (by omega) (by omega) (by omega) rfl rfl (by rw [hνBr, hνB10, e])
  have nB9Bq : bB9 ≠ bBq := fun e => hap 8 2 (by omega) (by omega) (by omega) rfl rfl (by rw [hνB9, hνBq, e])
  have nB9Br : bB9 ≠ bBr := fun e => hap 8 6 (by omega) (by omega) (by omega) rfl rfl (by rw [hνB9, hνBr, e])
  have nB9B10 : bB9 ≠ bB10 := fun e => hap 8 9 (by omega) (by omega) (by omega) rfl rfl (by rw [hνB9, hνB10, e])
  have nB10Bq : bB10 ≠ bBq := fun e => hap 9 2 (by omega) (by omega) (by omega) rfl rfl (by rw [hνB10, hνBq, e])
  have nB10Br : bB10 ≠ bBr := fun e => hap 9 6 (by omega) (by omega) (by omega) rfl rfl (by rw [hνB10, hνBr, e])
  have nB10B9 : bB10 ≠ bB9 := fun e => hap 9 8 (by omega) (by omega) (by omega) rfl rfl (by rw [hνB10, hνB9, e])
  simp only [hνBq, hνBr, hνB9, hνB10]
  clear hνBq hνBr hνB9 hνB10
  clear hap
  have gBq := Nat.le_trans HW.out.size hBBq
  clear hBBq
  have gBr := Nat.le_trans HW.out.size hBBr
  clear hBBr
  have gB9 := Nat.le_trans HW.out.size hBB9
  clear hBB9
  have gB10 := Nat.le_trans HW.out.size hBB10
  clear hBB10
  clear lB4 cB4 fB4 lB5 cB5 fB5 lB6 cB6 fB6 lB7 cB7 fB7
  replace B4 := Lib.hid (B4.out.later hb)
  replace B5 := Lib.hid (B5.out.later hb)
  replace B6 := Lib.hid (B6.out.later hb)
  replace B7 := Lib.hid (B7.out.later hb)
  replace HW := Lib.hid (HW.out.trans (hb.mono HW.out.size))
  clear hb
  have Bq := Lib.hid hXBq
  clear hXBq
  have Br := Lib.hid hXBr
  clear hXBr
  have B9 := Lib.hid hXB9
  clear hXB9
  have B10 := Lib.hid hXB10
  clear hXB10
  obtain ⟨lB4, cB4, fB4⟩ := B4.out
  obtain ⟨lB5, cB5, fB5⟩ := B5.out
  obtain ⟨lB6, cB6, fB6⟩ := B6.out
  obtain ⟨lB7, cB7, fB7⟩ := B7.out
  obtain ⟨lBq, cBq, fBq⟩ := Bq.out
  obtain ⟨lBr, cBr, fBr⟩ := Br.out
  obtain ⟨lB9, cB9, fB9⟩ := B9.out
  obtain ⟨lB10, cB10, fB10⟩ := B10.out
  clear hf J1 J2
  clear lBq cBq fBq Bq
  clear lBr cBr fBr Br
  go_upto_region 2 with (fail)
  have B4_ : Box ((((wg.setCell ⟨bB9, 0, none⟩ (.int .i64 X.lo)).setCell ⟨bB9, 1, none⟩ (.int .i64 X.hi)).setCell ⟨bB10, 0, none⟩ (.int .i64 Y.lo)).setCell ⟨bB10, 1, none⟩ (.int .i64 Y.hi)) (w.heap.size) #[.int .i64 a.lo, .int .i64 a.hi] := by simpa using ((((B4.out.other (p := ⟨bB9, 0, none⟩) (.int .i64 X.lo) (by first | assumption | (simp; done) | omega)).other (p := ⟨bB9, 1, none⟩) (.int .i64 X.hi) (by first | assumption | (simp; done) | omega)).other (p := ⟨bB10, 0, none⟩) (.int .i64 Y.lo) (by first | assumption | (simp; done) | omega)).other (p := ⟨bB10, 1, none⟩) (.int .i64 Y.hi) (by first | assumption | (simp; done) | omega))
  have B5_ : Box ((((wg.setCell ⟨bB9, 0, none⟩ (.int .i64 X.lo)).setCell ⟨bB9, 1, none⟩ (.int .i64 X.hi)).setCell ⟨bB10, 0, none⟩ (.int .i64 Y.lo)).setCell ⟨bB10, 1, none⟩ (.int .i64 Y.hi)) (w.heap.size + 1) #[.int .i64 b.lo, .int .i64 b.hi] := by simpa using ((((B5.out.other (p := ⟨bB9, 0, none⟩) (.int .i64 X.lo) (by first | assumption | (simp; done) | omega)).other (p := ⟨bB9, 1, none⟩) (.int .i64 X.hi) (by first | assumption | (simp; done) | omega)).other (p := ⟨bB10, 0, none⟩) (.int .i64 Y.lo) (by first | assumption | (simp; done) | omega)).other (p := ⟨bB10, 1, none⟩) (.int .i64 Y.hi) (by first | assumption | (simp; done) | omega))
  have B6_ : Box ((((wg.setCell ⟨bB9, 0, none⟩ (.int .i64 X.lo)).setCell ⟨bB9, 1, none⟩ (.int .i64 X.hi)).setCell ⟨bB10, 0, none⟩ (.int .i64 Y.lo)).setCell ⟨bB10, 1, none⟩ (.int .i64 Y.hi)) (w.heap.size + 1 + 1) #[.int .i64 c.lo, .int .i64 c.hi] := by simpa using ((((B6.out.other (p := ⟨bB9, 0, none⟩) (.int .i64 X.lo) (by first | assumption | (simp; done) | omega)).other (p := ⟨bB9, 1, none⟩) (.int .i64 X.hi) (by first | assumption | (simp; done) | omega)).other (p := ⟨bB10, 0, none⟩) (.int .i64 Y.lo) (by first | assumption | (simp; done) | omega)).other (p := ⟨bB10, 1, none⟩) (.int .i64 Y.hi) (by first | assumption | (simp; done) | omega))
  have B7_ : Box ((((wg.setCell ⟨bB9, 0, none⟩ (.int .i64 X.lo)).setCell ⟨bB9, 1, none⟩ (.int .i64 X.hi)).setCell ⟨bB10, 0, none⟩ (.int .i64 Y.lo)).setCell ⟨bB10, 1, none⟩ (.int .i64 Y.hi)) (w.heap.size + 1 + 1 + 1) #[.int .i64 d.lo, .int .i64 d.hi] := by simpa using ((((B7.out.other (p := ⟨bB9, 0, none⟩) (.int .i64 X.lo) (by first | assumption | (simp; done) | omega)).other (p := ⟨bB9, 1, none⟩) (.int .i64 X.hi) (by first | assumption | (simp; done) | omega)).other (p := ⟨bB10, 0, none⟩) (.int .i64 Y.lo) (by first | assumption | (simp; done) | omega)).other (p := ⟨bB10, 1, none⟩) (.int .i64 Y.hi) (by first | assumption | (simp; done) | omega))
  have B9_ : Box ((((wg.setCell ⟨bB9, 0, none⟩ (.int .i64 X.lo)).setCell ⟨bB9, 1, none⟩ (.int .i64 X.hi)).setCell ⟨bB10, 0, none⟩ (.int .i64 Y.lo)).setCell ⟨bB10, 1, none⟩ (.int .i64 Y.hi)) (bB9) #[(.int .i64 X.lo), (.int .i64 X.hi)] := by simpa using ((((B9.out.set 0 (.int .i64 X.lo)).set 1 (.int .i64 X.hi)).other (p := ⟨bB10, 0, none⟩) (.int .i64 Y.lo) (by first | assumption | (simp; done) | omega)).other (p := ⟨bB10, 1, none⟩) (.int .i64 Y.hi) (by first | assumption | (simp; done) | omega))
  have B10_ : Box ((((wg.setCell ⟨bB9, 0, none⟩ (.int .i64 X.lo)).setCell ⟨bB9, 1, none⟩ (.int .i64 X.hi)).setCell ⟨bB10, 0, none⟩ (.int .i64 Y.lo)).setCell ⟨bB10, 1, none⟩ (.int .i64 Y.hi)) (bB10) #[(.int .i64 Y.lo), (.int .i64 Y.hi)] := by simpa using ((((B10.out.other (p := ⟨bB9, 0, none⟩) (.int .i64 X.lo) (by first | assumption | (simp; done) | omega)).other (p := ⟨bB9, 1, none⟩) (.int .i64 X.hi) (by first | assumption | (simp; done) | omega)).set 0 (.int .i64 Y.lo)).set 1 (.int .i64 Y.hi))
  have HW_ : Below w.heap.size w ((((wg.setCell ⟨bB9, 0, none⟩ (.int .i64 X.lo)).setCell ⟨bB9, 1, none⟩ (.int .i64 X.hi)).setCell ⟨bB10, 0, none⟩ (.int .i64 Y.lo)).setCell ⟨bB10, 1, none⟩ (.int .i64 Y.hi)) := ((((HW.out.setCell (p := ⟨bB9, 0, none⟩) (by first | assumption | omega | (have := HW.out.size; omega) | (simp; omega)) (.int .i64 X.lo)).setCell (p := ⟨bB9, 1, none⟩) (by first | assumption | omega | (have := HW.out.size; omega) | (simp; omega)) (.int .i64 X.hi)).setCell (p := ⟨bB10, 0, none⟩) (by first | assumption | omega | (have := HW.out.size; omega) | (simp; omega)) (.int .i64 Y.lo)).setCell (p := ⟨bB10, 1, none⟩) (by first | assumption | omega | (have := HW.out.size; omega) | (simp; omega)) (.int .i64 Y.hi))
  clear lB4 cB4 fB4 lB5 cB5 fB5 lB6 cB6 fB6 lB7 cB7 fB7 lB9 cB9 fB9 lB10 cB10 fB10
  clear B4 B5 B6 B7 B9 B10 HW
  generalize ((((wg.setCell ⟨bB9, 0, none⟩ (.int .i64 X.lo)).setCell ⟨bB9, 1, none⟩ (.int .i64 X.hi)).setCell ⟨bB10, 0, none⟩ (.int .i64 Y.lo)).setCell ⟨bB10, 1, none⟩ (.int .i64 Y.hi)) = wk at *
  have B4 := Lib.hid B4_
  clear B4_
  have B5 := Lib.hid B5_
  clear B5_
  have B6 := Lib.hid B6_
  clear B6_
  have B7 := Lib.hid B7_
  clear B7_
  have B9 := Lib.hid B9_
  clear B9_
  have B10 := Lib.hid B10_
  clear B10_
  have HW := Lib.hid HW_
  clear HW_
  obtain ⟨lB4, cB4, fB4⟩ := B4.out
  obtain ⟨lB5, cB5, fB5⟩ := B5.out
  obtain ⟨lB6, cB6, fB6⟩ := B6.out
  obtain ⟨lB7, cB7, fB7⟩ := B7.out
  obtain ⟨lB9, cB9, fB9⟩ := B9.out
  obtain ⟨lB10, cB10, fB10⟩ := B10.out
  refine wp_region_grow 47 (fun k => match k with | 2 => .const (.agg #[.int .i64 (addQ X Y).lo, .int .i64 (addQ X Y).hi]) | 5 => .const (.agg #[.int .i64 (addQ a b).lo, .int .i64 (addQ a b).hi]) | 6 => .const (.bool true) | 10 => .const (.agg #[.int .i64 (subQ X Y).lo, .int .i64 (subQ X Y).hi]) | 13 => .const (.agg #[.int .i64 (subQ a b).lo, .int .i64 (subQ a b).hi]) | 14 => .const (.bool true) | 19 => .const (.agg #[.int .i64 (mulS X Y).lo, .int .i64 (mulS X Y).hi]) | 22 => .const (.agg #[.int .i64 (mulS a b).lo, .int .i64 (mulS a b).hi]) | 23 => .const (.bool true) | 28 => .const (.bool true) | 33 => .made wk.heap.size (fun b => .slice (some ⟨b, 0, none⟩) 2 2) #[.int .i64 X.lo, .int .i64 X.hi, .int .i64 Y.lo, .int .i64 Y.hi] | 34 => .const (.agg #[.int .i64 (joinL [X, Y]).lo, .int .i64 (joinL [X, Y]).hi]) | 36 => .const (.bool true) | 42 => .made wk.heap.size (fun b => .slice (some ⟨b, 0, none⟩) 2 2) #[.int .i64 a.lo, .int .i64 a.hi, .int .i64 b.lo, .int .i64 b.hi] | 43 => .const (.agg #[.int .i64 (meetS [a, b]).lo, .int .i64 (meetS [a, b]).hi]) | 44 => .const (.bool true) | _ => .plain) (by kernel_rfl) (by kernel_rfl) ?_ (fun ν => ?_)
  · (intro k; (try dsimp only); split <;> first | exact True.intro | (intro u w1 w2 hu hb; exact hu.below hb))
  simp only [List.take_succ_cons, List.take_zero, List.drop_succ_cons, List.drop_zero]
  refine Grow.val (v := ?_) rfl rfl (fun wg hbg hdg => ?_) ?_
  rotate_left
  focus ((obtain ⟨lg0, cg0, fg0⟩ := B4.out.later hbg); (obtain ⟨lg1, cg1, fg1⟩ := B5.out.later hbg); (obtain ⟨lg2, cg2, fg2⟩ := B6.out.later hbg); (obtain ⟨lg3, cg3, fg3⟩ := B7.out.later hbg); (obtain ⟨lg4, cg4, fg4⟩ := B9.out.later hbg); (obtain ⟨lg5, cg5, fg5⟩ := B10.out.later hbg); clear hbg hdg; first | (go_simp; done) | (go_simp; with_reducible rfl))
  simp only [Act.put, List.setIfInBounds_toArray, List.set_cons_zero, List.set_cons_succ]
  refine Grow.val (v := ?_) rfl rfl (fun wg hbg hdg => ?_) ?_
  rotate_left
  focus ((obtain ⟨lg0, cg0, fg0⟩ := B4.out.later hbg); (obtain ⟨lg1, cg1, fg1⟩ := B5.out.later hbg); (obtain ⟨lg2, cg2, fg2⟩ := B6.out.later hbg); (obtain ⟨lg3, cg3, fg3⟩ := B7.out.later hbg); (obtain ⟨lg4, cg4, fg4⟩ := B9.out.later hbg); (obtain ⟨lg5, cg5, fg5⟩ := B10.out.later hbg); clear hbg hdg; first | (go_simp; done) | (go_simp; with_reducible rfl))
  simp only [Act.put, List.setIfInBounds_toArray, List.set_cons_zero, List.set_cons_succ]
  refine Grow.call (f := ?_) (args := ?_) rfl (fun wg => ?_) (fun wg hbg hdg => ?_) ?_
  rotate_left 2
  focus (first | (go_simp; done) | (go_simp; refine And.intro ?_ ?_ <;> with_reducible rfl) | (go_simp; with_reducible rfl))
  focus exact Calls.mono (C1.out wg) (fun e w2 ⟨he, hb2⟩ => ⟨_, he, rfl, hb2⟩)
  simp only [Act.put, Known.val, List.setIfInBounds_toArray, List.set_cons_zero, List.set_cons_succ]
  refine Grow.val (v := ?_) rfl rfl (fun wg hbg hdg => ?_) ?_
  rotate_left
  focus ((obtain ⟨lg0, cg0, fg0⟩ := B4.out.later hbg); (obtain ⟨lg1, cg1, fg1⟩ := B5.out.later hbg); (obtain ⟨lg2, cg2, fg2⟩ := B6.out.later hbg); (obtain ⟨lg3, cg3, fg3⟩ := B7.out.later hbg); (obtain ⟨lg4, cg4, fg4⟩ := B9.out.later hbg); (obtain ⟨lg5, cg5, fg5⟩ := B10.out.later hbg); clear hbg hdg; first | (go_simp; done) | (go_simp; with_reducible rfl))
  simp only [Act.put, List.setIfInBounds_toArray, List.set_cons_zero, List.set_cons_succ]
  refine Grow.val (v := ?_) rfl rfl (fun wg hbg hdg => ?_) ?_
  rotate_left
  focus ((obtain ⟨lg0, cg0, fg0⟩ := B4.out.later hbg); (obtain ⟨lg1, cg1, fg1⟩ := B5.out.later hbg); (obtain ⟨lg2, cg2, fg2⟩ := B6.out.later hbg); (obtain ⟨lg3, cg3, fg3⟩ := B7.out.later hbg); (obtain ⟨lg4, cg4, fg4⟩ := B9.out.later hbg); (obtain ⟨lg5, cg5, fg5⟩ := B10.out.later hbg); clear hbg hdg; first | (go_simp; done) | (go_simp; with_reducible rfl))
  simp only [Act.put, List.setIfInBounds_toArray, List.set_cons_zero, List.set_cons_succ]
  refine Grow.call (f := ?_) (args := ?_) rfl (fun wg => ?_) (fun wg hbg hdg => ?_) ?_
  rotate_left 2
  focus (first | (go_simp; done) | (go_simp; refine And.intro ?_ ?_ <;> with_reducible rfl) | (go_simp; with_reducible rfl))
  focus exact Calls.mono (C2.out wg) (fun e w2 ⟨he, hb2⟩ => ⟨_, he, rfl, hb2⟩)
  simp only [Act.put, Known.val, List.setIfInBounds_toArray, List.set_cons_zero, List.set_cons_succ]
  refine Grow.call (f := ?_) (args := ?_) rfl (fun wg => ?_) (fun wg hbg hdg => ?_) ?_
  rotate_left 2
  focus (first | (go_simp; done) | (go_simp; refine And.intro ?_ ?_ <;> with_reducible rfl) | (go_simp; with_reducible rfl))
  focus exact Calls.mono (lawHoldsT I1.out) (fun e w2 ⟨he, hb2⟩ => ⟨_, he, rfl, hb2⟩)
  simp only [Act.put, Known.val, List.setIfInBounds_toArray, List.set_cons_zero, List.set_cons_succ]
  refine Grow.val (v := ?_) rfl rfl (fun wg hbg hdg => ?_) ?_
  rotate_left
  focus ((obtain ⟨lg0, cg0, fg0⟩ := B4.out.later hbg); (obtain ⟨lg1, cg1, fg1⟩ := B5.out.later hbg); (obtain ⟨lg2, cg2, fg2⟩ := B6.out.later hbg); (obtain ⟨lg3, cg3, fg3⟩ := B7.out.later hbg); (obtain ⟨lg4, cg4, fg4⟩ := B9.out.later hbg); (obtain ⟨lg5, cg5, fg5⟩ := B10.out.later hbg); clear hbg hdg; first | (go_simp; done) | (go_simp; with_reducible rfl))
  simp only [Act.put, List.setIfInBounds_toArray, List.set_cons_zero, List.set_cons_succ]
  refine Grow.val (v := ?_) rfl rfl (fun wg hbg hdg => ?_) ?_
  rotate_left
  focus ((obtain ⟨lg0, cg0, fg0⟩ := B4.out.later hbg); (obtain ⟨lg1, cg1, fg1⟩ := B5.out.later hbg); (obtain ⟨lg2, cg2, fg2⟩ := B6.out.later hbg); (obtain ⟨lg3, cg3, fg3⟩ := B7.out.later hbg); (obtain ⟨lg4, cg4, fg4⟩ := B9.out.later hbg); (obtain ⟨lg5, cg5, fg5⟩ := B10.out.later hbg); clear hbg hdg; first | (go_simp; done) | (go_simp; with_reducible rfl))
  simp only [Act.put, List.setIfInBounds_toArray, List.set_cons_zero, List.set_cons_succ]
  refine Grow.val (v := ?_) rfl rfl (fun wg hbg hdg => ?_) ?_
  rotate_left
  focus ((obtain ⟨lg0, cg0, fg0⟩ := B4.out.later hbg); (obtain ⟨lg1, cg1, fg1⟩ := B5.out.later hbg); (obtain ⟨lg2, cg2, fg2⟩ := B6.out.later hbg); (obtain ⟨lg3, cg3, fg3⟩ := B7.out.later hbg); (obtain ⟨lg4, cg4, fg4⟩ := B9.out.later hbg); (obtain ⟨lg5, cg5, fg5⟩ := B10.out.later hbg); clear hbg hdg; first | (go_simp; done) | (go_simp; with_reducible rfl))
  simp only [Act.put, List.setIfInBounds_toArray, List.set_cons_zero, List.set_cons_succ]
  refine Grow.call (f := ?_) (args := ?_) rfl (fun wg => ?_) (fun wg hbg hdg => ?_) ?_
  rotate_left 2
  focus (first | (go_simp; done) | (go_simp; refine And.intro ?_ ?_ <;> with_reducible rfl) | (go_simp; with_reducible rfl))
  focus exact Calls.mono (C3.out wg) (fun e w2 ⟨he, hb2⟩ => ⟨_, he, rfl, hb2⟩)
  simp only [Act.put, Known.val, List.setIfInBounds_toArray, List.set_cons_zero, List.set_cons_succ]
  refine Grow.val (v := ?_) rfl rfl (fun wg hbg hdg => ?_) ?_
  rotate_left
  focus ((obtain ⟨lg0, cg0, fg0⟩ := B4.out.later hbg); (obtain ⟨lg1, cg1, fg1⟩ := B5.out.later hbg); (obtain ⟨lg2, cg2, fg2⟩ := B6.out.later hbg); (obtain ⟨lg3, cg3, fg3⟩ := B7.out.later hbg); (obtain ⟨lg4, cg4, fg4⟩ := B9.out.later hbg); (obtain ⟨lg5, cg5, fg5⟩ := B10.out.later hbg); clear hbg hdg; first | (go_simp; done) | (go_simp; with_reducible rfl))
  simp only [Act.put, List.setIfInBounds_toArray, List.set_cons_zero, List.set_cons_succ]
  refine Grow.val (v := ?_) rfl rfl (fun wg hbg hdg => ?_) ?_
  rotate_left
  focus ((obtain ⟨lg0, cg0, fg0⟩ := B4.out.later hbg); (obtain ⟨lg1, cg1, fg1⟩ := B5.out.later hbg); (obtain ⟨lg2, cg2, fg2⟩ := B6.out.later hbg); (obtain ⟨lg3, cg3, fg3⟩ := B7.out.later hbg); (obtain ⟨lg4, cg4, fg4⟩ := B9.out.later hbg); (obtain ⟨lg5, cg5, fg5⟩ := B10.out.later hbg); clear hbg hdg; first | (go_simp; done) | (go_simp; with_reducible rfl))
  simp only [Act.put, List.setIfInBounds_toArray, List.set_cons_zero, List.set_cons_succ]
  refine Grow.call (f := ?_) (args := ?_) rfl (fun wg => ?_) (fun wg hbg hdg => ?_) ?_
  rotate_left 2
  focus (first | (go_simp; done) | (go_simp; refine And.intro ?_ ?_ <;> with_reducible rfl) | (go_simp; with_reducible rfl))
  focus exact Calls.mono (C4.out wg) (fun e w2 ⟨he, hb2⟩ => ⟨_, he, rfl, hb2⟩)
  simp only [Act.put, Known.val, List.setIfInBounds_toArray, List.set_cons_zero, List.set_cons_succ]
  refine Grow.call (f := ?_) (args := ?_) rfl (fun wg => ?_) (fun wg hbg hdg => ?_) ?_
  rotate_left 2
  focus (first | (go_simp; done) | (go_simp; refine And.intro ?_ ?_ <;> with_reducible rfl) | (go_simp; with_reducible rfl))
  focus exact Calls.mono (lawHoldsT I2.out) (fun e w2 ⟨he, hb2⟩ => ⟨_, he, rfl, hb2⟩)
  simp only [Act.put, Known.val, List.setIfInBounds_toArray, List.set_cons_zero, List.set_cons_succ]
  refine Grow.val (v := ?_) rfl rfl (fun wg hbg hdg => ?_) ?_
  rotate_left
  focus ((obtain ⟨lg0, cg0, fg0⟩ := B4.out.later hbg); (obtain ⟨lg1, cg1, fg1⟩ := B5.out.later hbg); (obtain ⟨lg2, cg2, fg2⟩ := B6.out.later hbg); (obtain ⟨lg3, cg3, fg3⟩ := B7.out.later hbg); (obtain ⟨lg4, cg4, fg4⟩ := B9.out.later hbg); (obtain ⟨lg5, cg5, fg5⟩ := B10.out.later hbg); clear hbg hdg; first | (go_simp; done) | (go_simp; with_reducible rfl))
  simp only [Act.put, List.setIfInBounds_toArray, List.set_cons_zero, List.set_cons_succ]
  refine Grow.val (v := ?_) rfl rfl (fun wg hbg hdg => ?_) ?_
  rotate_left
  focus ((obtain ⟨lg0, cg0, fg0⟩ := B4.out.later hbg); (obtain ⟨lg1, cg1, fg1⟩ := B5.out.later hbg); (obtain ⟨lg2, cg2, fg2⟩ := B6.out.later hbg); (obtain ⟨lg3, cg3, fg3⟩ := B7.out.later hbg); (obtain ⟨lg4, cg4, fg4⟩ := B9.out.later hbg); (obtain ⟨lg5, cg5, fg5⟩ := B10.out.later hbg); clear hbg hdg; first | (go_simp; done) | (go_simp; with_reducible rfl))
  simp only [Act.put, List.setIfInBounds_toArray, List.set_cons_zero, List.set_cons_succ]
  refine Grow.val (v := ?_) rfl rfl (fun wg hbg hdg => ?_) ?_
  rotate_left
  focus ((obtain ⟨lg0, cg0, fg0⟩ := B4.out.later hbg); (obtain ⟨lg1, cg1, fg1⟩ := B5.out.later hbg); (obtain ⟨lg2, cg2, fg2⟩ := B6.out.later hbg); (obtain ⟨lg3, cg3, fg3⟩ := B7.out.later hbg); (obtain ⟨lg4, cg4, fg4⟩ := B9.out.later hbg); (obtain ⟨lg5, cg5, fg5⟩ := B10.out.later hbg); clear hbg hdg; first | (go_simp; done) | (go_simp; with_reducible rfl))
  simp only [Act.put, List.setIfInBounds_toArray, List.set_cons_zero, List.set_cons_succ]
  refine Grow.val (v := ?_) rfl rfl (fun wg hbg hdg => ?_) ?_
  rotate_left
  focus ((obtain ⟨lg0, cg0, fg0⟩ := B4.out.later hbg); (obtain ⟨lg1, cg1, fg1⟩ := B5.out.later hbg); (obtain ⟨lg2, cg2, fg2⟩ := B6.out.later hbg); (obtain ⟨lg3, cg3, fg3⟩ := B7.out.later hbg); (obtain ⟨lg4, cg4, fg4⟩ := B9.out.later hbg); (obtain ⟨lg5, cg5, fg5⟩ := B10.out.later hbg); clear hbg hdg; first | (go_simp; done) | (go_simp; with_reducible rfl))
  simp only [Act.put, List.setIfInBounds_toArray, List.set_cons_zero, List.set_cons_succ]
  refine Grow.call (f := ?_) (args := ?_) rfl (fun wg => ?_) (fun wg hbg hdg => ?_) ?_
  rotate_left 2
  focus (first | (go_simp; done) | (go_simp; refine And.intro ?_ ?_ <;> with_reducible rfl) | (go_simp; with_reducible rfl))
  focus exact Calls.mono (C5.out wg) (fun e w2 ⟨he, hb2⟩ => ⟨_, he, rfl, hb2⟩)
  simp only [Act.put, Known.val, List.setIfInBounds_toArray, List.set_cons_zero, List.set_cons_succ]
  refine Grow.val (v := ?_) rfl rfl (fun wg hbg hdg => ?_) ?_
  rotate_left
  focus ((obtain ⟨lg0, cg0, fg0⟩ := B4.out.later hbg); (obtain ⟨lg1, cg1, fg1⟩ := B5.out.later hbg); (obtain ⟨lg2, cg2, fg2⟩ := B6.out.later hbg); (obtain ⟨lg3, cg3, fg3⟩ := B7.out.later hbg); (obtain ⟨lg4, cg4, fg4⟩ := B9.out.later hbg); (obtain ⟨lg5, cg5, fg5⟩ := B10.out.later hbg); clear hbg hdg; first | (go_simp; done) | (go_simp; with_reducible rfl))
  simp only [Act.put, List.setIfInBounds_toArray, List.set_cons_zero, List.set_cons_succ]
  refine Grow.val (v := ?_) rfl rfl (fun wg hbg hdg => ?_) ?_
  rotate_left
  focus ((obtain ⟨lg0, cg0, fg0⟩ := B4.out.later hbg); (obtain ⟨lg1, cg1, fg1⟩ := B5.out.later hbg); (obtain ⟨lg2, cg2, fg2⟩ := B6.out.later hbg); (obtain ⟨lg3, cg3, fg3⟩ := B7.out.later hbg); (obtain ⟨lg4, cg4, fg4⟩ := B9.out.later hbg); (obtain ⟨lg5, cg5, fg5⟩ := B10.out.later hbg); clear hbg hdg; first | (go_simp; done) | (go_simp; with_reducible rfl))
  simp only [Act.put, List.setIfInBounds_toArray, List.set_cons_zero, List.set_cons_succ]
  refine Grow.call (f := ?_) (args := ?_) rfl (fun wg => ?_) (fun wg hbg hdg => ?_) ?_
  rotate_left 2
  focus (first | (go_simp; done) | (go_simp; refine And.intro ?_ ?_ <;> with_reducible rfl) | (go_simp; with_reducible rfl))
  focus exact Calls.mono (C6.out wg) (fun e w2 ⟨he, hb2⟩ => ⟨_, he, rfl, hb2⟩)
  simp only [Act.put, Known.val, List.setIfInBounds_toArray, List.set_cons_zero, List.set_cons_succ]
  refine Grow.call (f := ?_) (args := ?_) rfl (fun wg => ?_) (fun wg hbg hdg => ?_) ?_
  rotate_left 2
  focus (first | (go_simp; done) | (go_simp; refine And.intro ?_ ?_ <;> with_reducible rfl) | (go_simp; with_reducible rfl))
  focus exact Calls.mono (lawHoldsT I3.out) (fun e w2 ⟨he, hb2⟩ => ⟨_, he, rfl, hb2⟩)
  simp only [Act.put, Known.val, List.setIfInBounds_toArray, List.set_cons_zero, List.set_cons_succ]
  refine Grow.val (v := ?_) rfl rfl (fun wg hbg hdg => ?_) ?_
  rotate_left
  focus ((obtain ⟨lg0, cg0, fg0⟩ := B4.out.later hbg); (obtain ⟨lg1, cg1, fg1⟩ := B5.out.later hbg); (obtain ⟨lg2, cg2, fg2⟩ := B6.out.later hbg); (obtain ⟨lg3, cg3, fg3⟩ := B7.out.later hbg); (obtain ⟨lg4, cg4, fg4⟩ := B9.out.later hbg); (obtain ⟨lg5, cg5, fg5⟩ := B10.out.later hbg); clear hbg hdg; first | (go_simp; done) | (go_simp; with_reducible rfl))
  simp only [Act.put, List.setIfInBounds_toArray, List.set_cons_zero, List.set_cons_succ]
  refine Grow.val (v := ?_) rfl rfl (fun wg hbg hdg => ?_) ?_
  rotate_left
  focus ((obtain ⟨lg0, cg0, fg0⟩ := B4.out.later hbg); (obtain ⟨lg1, cg1, fg1⟩ := B5.out.later hbg); (obtain ⟨lg2, cg2, fg2⟩ := B6.out.later hbg); (obtain ⟨lg3, cg3, fg3⟩ := B7.out.later hbg); (obtain ⟨lg4, cg4, fg4⟩ := B9.out.later hbg); (obtain ⟨lg5, cg5, fg5⟩ := B10.out.later hbg); clear hbg hdg; first | (go_simp; done) | (go_simp; with_reducible rfl))
  simp only [Act.put, List.setIfInBounds_toArray, List.set_cons_zero, List.set_cons_succ]
  refine Grow.val (v := ?_) rfl rfl (fun wg hbg hdg => ?_) ?_
  rotate_left
  focus ((obtain ⟨lg0, cg0, fg0⟩ := B4.out.later hbg); (obtain ⟨lg1, cg1, fg1⟩ := B5.out.later hbg); (obtain ⟨lg2, cg2, fg2⟩ := B6.out.later hbg); (obtain ⟨lg3, cg3, fg3⟩ := B7.out.later hbg); (obtain ⟨lg4, cg4, fg4⟩ := B9.out.later hbg); (obtain ⟨lg5, cg5, fg5⟩ := B10.out.later hbg); clear hbg hdg; first | (go_simp; done) | (go_simp; with_reducible rfl))
  simp only [Act.put, List.setIfInBounds_toArray, List.set_cons_zero, List.set_cons_succ]
  refine Grow.val (v := ?_) rfl rfl (fun wg hbg hdg => ?_) ?_
  rotate_left
  focus ((obtain ⟨lg0, cg0, fg0⟩ := B4.out.later hbg); (obtain ⟨lg1, cg1, fg1⟩ := B5.out.later hbg); (obtain ⟨lg2, cg2, fg2⟩ := B6.out.later hbg); (obtain ⟨lg3, cg3, fg3⟩ := B7.out.later hbg); (obtain ⟨lg4, cg4, fg4⟩ := B9.out.later hbg); (obtain ⟨lg5, cg5, fg5⟩ := B10.out.later hbg); clear hbg hdg; first | (go_simp; done) | (go_simp; with_reducible rfl))
  simp only [Act.put, List.setIfInBounds_toArray, List.set_cons_zero, List.set_cons_succ]
  refine Grow.call (f := ?_) (args := ?_) rfl (fun wg => ?_) (fun wg hbg hdg => ?_) ?_
  rotate_left 2
  focus (first | (go_simp; done) | (go_simp; refine And.intro ?_ ?_ <;> with_reducible rfl) | (go_simp; with_reducible rfl))
  focus exact Calls.mono (lawHoldsT I4.out) (fun e w2 ⟨he, hb2⟩ => ⟨_, he, rfl, hb2⟩)
  simp only [Act.put, Known.val, List.setIfInBounds_toArray, List.set_cons_zero, List.set_cons_succ]
  refine Grow.val (v := ?_) rfl rfl (fun wg hbg hdg => ?_) ?_
  rotate_left
  focus ((obtain ⟨lg0, cg0, fg0⟩ := B4.out.later hbg); (obtain ⟨lg1, cg1, fg1⟩ := B5.out.later hbg); (obtain ⟨lg2, cg2, fg2⟩ := B6.out.later hbg); (obtain ⟨lg3, cg3, fg3⟩ := B7.out.later hbg); (obtain ⟨lg4, cg4, fg4⟩ := B9.out.later hbg); (obtain ⟨lg5, cg5, fg5⟩ := B10.out.later hbg); clear hbg hdg; first | (go_simp; done) | (go_simp; with_reducible rfl))
  simp only [Act.put, List.setIfInBounds_toArray, List.set_cons_zero, List.set_cons_succ]
  refine Grow.val (v := ?_) rfl rfl (fun wg hbg hdg => ?_) ?_
  rotate_left
  focus ((obtain ⟨lg0, cg0, fg0⟩ := B4.out.later hbg); (obtain ⟨lg1, cg1, fg1⟩ := B5.out.later hbg); (obtain ⟨lg2, cg2, fg2⟩ := B6.out.later hbg); (obtain ⟨lg3, cg3, fg3⟩ := B7.out.later hbg); (obtain ⟨lg4, cg4, fg4⟩ := B9.out.later hbg); (obtain ⟨lg5, cg5, fg5⟩ := B10.out.later hbg); clear hbg hdg; first | (go_simp; done) | (go_simp; with_reducible rfl))
  simp only [Act.put, List.setIfInBounds_toArray, List.set_cons_zero, List.set_cons_succ]
  refine Grow.val (v := ?_) rfl rfl (fun wg hbg hdg => ?_) ?_
  rotate_left
  focus ((obtain ⟨lg0, cg0, fg0⟩ := B4.out.later hbg); (obtain ⟨lg1, cg1, fg1⟩ := B5.out.later hbg); (obtain ⟨lg2, cg2, fg2⟩ := B6.out.later hbg); (obtain ⟨lg3, cg3, fg3⟩ := B7.out.later hbg); (obtain ⟨lg4, cg4, fg4⟩ := B9.out.later hbg); (obtain ⟨lg5, cg5, fg5⟩ := B10.out.later hbg); clear hbg hdg; first | (go_simp; done) | (go_simp; with_reducible rfl))
  simp only [Act.put, List.setIfInBounds_toArray, List.set_cons_zero, List.set_cons_succ]
  refine Grow.val (v := ?_) rfl rfl (fun wg hbg hdg => ?_) ?_
  rotate_left
  focus ((obtain ⟨lg0, cg0, fg0⟩ := B4.out.later hbg); (obtain ⟨lg1, cg1, fg1⟩ := B5.out.later hbg); (obtain ⟨lg2, cg2, fg2⟩ := B6.out.later hbg); (obtain ⟨lg3, cg3, fg3⟩ := B7.out.later hbg); (obtain ⟨lg4, cg4, fg4⟩ := B9.out.later hbg); (obtain ⟨lg5, cg5, fg5⟩ := B10.out.later hbg); clear hbg hdg; first | (go_simp; done) | (go_simp; with_reducible rfl))
  simp only [Act.put, List.setIfInBounds_toArray, List.set_cons_zero, List.set_cons_succ]
  refine Grow.made (T := ?_) rfl rfl (fun wg hbg hdg => ?_) ?_
  rotate_left
  focus ((obtain ⟨lg0, cg0, fg0⟩ := B4.out.later hbg); (obtain ⟨lg1, cg1, fg1⟩ := B5.out.later hbg); (obtain ⟨lg2, cg2, fg2⟩ := B6.out.later hbg); (obtain ⟨lg3, cg3, fg3⟩ := B7.out.later hbg); (obtain ⟨lg4, cg4, fg4⟩ := B9.out.later hbg); (obtain ⟨lg5, cg5, fg5⟩ := B10.out.later hbg); clear hbg hdg; first | (go_simp; done) | (go_simp; with_reducible rfl))
  simp only [Act.put, Known.val, List.setIfInBounds_toArray, List.set_cons_zero, List.set_cons_succ]
  refine Grow.call (f := ?_) (args := ?_) rfl (fun wg => ?_) (fun wg hbg hdg => ?_) ?_
  rotate_left 2
  focus (first | (go_simp; done) | (go_simp; refine And.intro ?_ ?_ <;> with_reducible rfl) | (go_simp; with_reducible rfl))
  focus ((obtain ⟨bq, hq, _, hX⟩ := hdg 33 (by kernel_rfl)); rw [hq]; exact Calls.mono (spanJoin (spans_box2 hX OX.out OY.out)) (fun e w2 ⟨he, hb2⟩ => ⟨_, he, rfl, hb2⟩))
  simp only [Act.put, Known.val, List.setIfInBounds_toArray, List.set_cons_zero, List.set_cons_succ]
  refine Grow.val (v := ?_) rfl rfl (fun wg hbg hdg => ?_) ?_
  rotate_left
  focus ((obtain ⟨lg0, cg0, fg0⟩ := B4.out.later hbg); (obtain ⟨lg1, cg1, fg1⟩ := B5.out.later hbg); (obtain ⟨lg2, cg2, fg2⟩ := B6.out.later hbg); (obtain ⟨lg3, cg3, fg3⟩ := B7.out.later hbg); (obtain ⟨lg4, cg4, fg4⟩ := B9.out.later hbg); (obtain ⟨lg5, cg5, fg5⟩ := B10.out.later hbg); clear hbg hdg; first | (go_simp; done) | (go_simp; with_reducible rfl))
  simp only [Act.put, List.setIfInBounds_toArray, List.set_cons_zero, List.set_cons_succ]
  refine Grow.call (f := ?_) (args := ?_) rfl (fun wg => ?_) (fun wg hbg hdg => ?_) ?_
  rotate_left 2
  focus (first | (go_simp; done) | (go_simp; refine And.intro ?_ ?_ <;> with_reducible rfl) | (go_simp; with_reducible rfl))
  focus exact Calls.mono (lawHoldsT I5.out) (fun e w2 ⟨he, hb2⟩ => ⟨_, he, rfl, hb2⟩)
  simp only [Act.put, Known.val, List.setIfInBounds_toArray, List.set_cons_zero, List.set_cons_succ]
  refine Grow.val (v := ?_) rfl rfl (fun wg hbg hdg => ?_) ?_
  rotate_left
  focus ((obtain ⟨lg0, cg0, fg0⟩ := B4.out.later hbg); (obtain ⟨lg1, cg1, fg1⟩ := B5.out.later hbg); (obtain ⟨lg2, cg2, fg2⟩ := B6.out.later hbg); (obtain ⟨lg3, cg3, fg3⟩ := B7.out.later hbg); (obtain ⟨lg4, cg4, fg4⟩ := B9.out.later hbg); (obtain ⟨lg5, cg5, fg5⟩ := B10.out.later hbg); clear hbg hdg; first | (go_simp; done) | (go_simp; with_reducible rfl))
  simp only [Act.put, List.setIfInBounds_toArray, List.set_cons_zero, List.set_cons_succ]
  refine Grow.val (v := ?_) rfl rfl (fun wg hbg hdg => ?_) ?_
  rotate_left
  focus ((obtain ⟨lg0, cg0, fg0⟩ := B4.out.later hbg); (obtain ⟨lg1, cg1, fg1⟩ := B5.out.later hbg); (obtain ⟨lg2, cg2, fg2⟩ := B6.out.later hbg); (obtain ⟨lg3, cg3, fg3⟩ := B7.out.later hbg); (obtain ⟨lg4, cg4, fg4⟩ := B9.out.later hbg); (obtain ⟨lg5, cg5, fg5⟩ := B10.out.later hbg); clear hbg hdg; first | (go_simp; done) | (go_simp; with_reducible rfl))
  simp only [Act.put, List.setIfInBounds_toArray, List.set_cons_zero, List.set_cons_succ]
  refine Grow.val (v := ?_) rfl rfl (fun wg hbg hdg => ?_) ?_
  rotate_left
  focus ((obtain ⟨lg0, cg0, fg0⟩ := B4.out.later hbg); (obtain ⟨lg1, cg1, fg1⟩ := B5.out.later hbg); (obtain ⟨lg2, cg2, fg2⟩ := B6.out.later hbg); (obtain ⟨lg3, cg3, fg3⟩ := B7.out.later hbg); (obtain ⟨lg4, cg4, fg4⟩ := B9.out.later hbg); (obtain ⟨lg5, cg5, fg5⟩ := B10.out.later hbg); clear hbg hdg; first | (go_simp; done) | (go_simp; with_reducible rfl))
  simp only [Act.put, List.setIfInBounds_toArray, List.set_cons_zero, List.set_cons_succ]
  refine Grow.val (v := ?_) rfl rfl (fun wg hbg hdg => ?_) ?_
  rotate_left
  focus ((obtain ⟨lg0, cg0, fg0⟩ := B4.out.later hbg); (obtain ⟨lg1, cg1, fg1⟩ := B5.out.later hbg); (obtain ⟨lg2, cg2, fg2⟩ := B6.out.later hbg); (obtain ⟨lg3, cg3, fg3⟩ := B7.out.later hbg); (obtain ⟨lg4, cg4, fg4⟩ := B9.out.later hbg); (obtain ⟨lg5, cg5, fg5⟩ := B10.out.later hbg); clear hbg hdg; first | (go_simp; done) | (go_simp; with_reducible rfl))
  simp only [Act.put, List.setIfInBounds_toArray, List.set_cons_zero, List.set_cons_succ]
  refine Grow.val (v := ?_) rfl rfl (fun wg hbg hdg => ?_) ?_
  rotate_left
  focus ((obtain ⟨lg0, cg0, fg0⟩ := B4.out.later hbg); (obtain ⟨lg1, cg1, fg1⟩ := B5.out.later hbg); (obtain ⟨lg2, cg2, fg2⟩ := B6.out.later hbg); (obtain ⟨lg3, cg3, fg3⟩ := B7.out.later hbg); (obtain ⟨lg4, cg4, fg4⟩ := B9.out.later hbg); (obtain ⟨lg5, cg5, fg5⟩ := B10.out.later hbg); clear hbg hdg; first | (go_simp; done) | (go_simp; with_reducible rfl))
  simp only [Act.put, List.setIfInBounds_toArray, List.set_cons_zero, List.set_cons_succ]
  refine Grow.made (T := ?_) rfl rfl (fun wg hbg hdg => ?_) ?_
  rotate_left
  focus ((obtain ⟨lg0, cg0, fg0⟩ := B4.out.later hbg); (obtain ⟨lg1, cg1, fg1⟩ := B5.out.later hbg); (obtain ⟨lg2, cg2, fg2⟩ := B6.out.later hbg); (obtain ⟨lg3, cg3, fg3⟩ := B7.out.later hbg); (obtain ⟨lg4, cg4, fg4⟩ := B9.out.later hbg); (obtain ⟨lg5, cg5, fg5⟩ := B10.out.later hbg); clear hbg hdg; first | (go_simp; done) | (go_simp; with_reducible rfl))
  simp only [Act.put, Known.val, List.setIfInBounds_toArray, List.set_cons_zero, List.set_cons_succ]
  refine Grow.call (f := ?_) (args := ?_) rfl (fun wg => ?_) (fun wg hbg hdg => ?_) ?_
  rotate_left 2
  focus (first | (go_simp; done) | (go_simp; refine And.intro ?_ ?_ <;> with_reducible rfl) | (go_simp; with_reducible rfl))
  focus ((obtain ⟨bq, hq, _, hX⟩ := hdg 42 (by kernel_rfl)); rw [hq]; exact Calls.mono (spanMeet (spans_box2 hX HA.out HB.out)) (fun e w2 ⟨he, hb2⟩ => ⟨_, he, rfl, hb2⟩))
  simp only [Act.put, Known.val, List.setIfInBounds_toArray, List.set_cons_zero, List.set_cons_succ]
  refine Grow.call (f := ?_) (args := ?_) rfl (fun wg => ?_) (fun wg hbg hdg => ?_) ?_
  rotate_left 2
  focus (first | (go_simp; done) | (go_simp; refine And.intro ?_ ?_ <;> with_reducible rfl) | (go_simp; with_reducible rfl))
  focus exact Calls.mono (lawHoldsT I6.out) (fun e w2 ⟨he, hb2⟩ => ⟨_, he, rfl, hb2⟩)
  simp only [Act.put, Known.val, List.setIfInBounds_toArray, List.set_cons_zero, List.set_cons_succ]
  refine Grow.val (v := ?_) rfl rfl (fun wg hbg hdg => ?_) ?_
  rotate_left
  focus ((obtain ⟨lg0, cg0, fg0⟩ := B4.out.later hbg); (obtain ⟨lg1, cg1, fg1⟩ := B5.out.later hbg); (obtain ⟨lg2, cg2, fg2⟩ := B6.out.later hbg); (obtain ⟨lg3, cg3, fg3⟩ := B7.out.later hbg); (obtain ⟨lg4, cg4, fg4⟩ := B9.out.later hbg); (obtain ⟨lg5, cg5, fg5⟩ := B10.out.later hbg); clear hbg hdg; first | (go_simp; done) | (go_simp; with_reducible rfl))
  simp only [Act.put, List.setIfInBounds_toArray, List.set_cons_zero, List.set_cons_succ]
  refine Grow.val (v := ?_) rfl rfl (fun wg hbg hdg => ?_) ?_
  rotate_left
  focus ((obtain ⟨lg0, cg0, fg0⟩ := B4.out.later hbg); (obtain ⟨lg1, cg1, fg1⟩ := B5.out.later hbg); (obtain ⟨lg2, cg2, fg2⟩ := B6.out.later hbg); (obtain ⟨lg3, cg3, fg3⟩ := B7.out.later hbg); (obtain ⟨lg4, cg4, fg4⟩ := B9.out.later hbg); (obtain ⟨lg5, cg5, fg5⟩ := B10.out.later hbg); clear hbg hdg; first | (go_simp; done) | (go_simp; with_reducible rfl))
  simp only [Act.put, List.setIfInBounds_toArray, List.set_cons_zero, List.set_cons_succ]
  intro wg hb hf hap
  obtain ⟨bBs, hνBs, hBBs, hXBs⟩ := hf 33 (by omega)
  have nBsB4 : bBs ≠ w.heap.size := fun e => by have := lB4; omega
  have nB4Bs : w.heap.size ≠ bBs := fun e => nBsB4 e.symm
  have nBsB5 : bBs ≠ w.heap.size + 1 := fun e => by have := lB5; omega
  have nB5Bs : w.heap.size + 1 ≠ bBs := fun e => nBsB5 e.symm
  have nBsB6 : bBs ≠ w.heap.size + 1 + 1 := fun e => by have := lB6; omega
  have nB6Bs : w.heap.size + 1 + 1 ≠ bBs := fun e => nBsB6 e.symm
  have nBsB7 : bBs ≠ w.heap.size + 1 + 1 + 1 := fun e => by have := lB7; omega
  have nB7Bs : w.heap.size + 1 + 1 + 1 ≠ bBs := fun e => nBsB7 e.symm
  have nBsB9 : bBs ≠ bB9 := fun e => by have := lB9; omega
  have nB9Bs : bB9 ≠ bBs := fun e => nBsB9 e.symm
  have nBsB10 : bBs ≠ bB10 := fun e => by have := lB10; omega
  have nB10Bs : bB10 ≠ bBs := fun e => nBsB10 e.symm
  obtain ⟨bBt, hνBt, hBBt, hXBt⟩ := hf 42 (by omega)
  have nBtB4 : bBt ≠ w.heap.size := fun e => by have := lB4; omega
  have nB4Bt : w.heap.size ≠ bBt := fun e => nBtB4 e.symm
  have nBtB5 : bBt ≠ w.heap.size + 1 := fun e => by have := lB5; omega
  have nB5Bt : w.heap.size + 1 ≠ bBt := fun e => nBtB5 e.symm
  have nBtB6 : bBt ≠ w.heap.size + 1 + 1 := fun e => by have := lB6; omega
  have nB6Bt : w.heap.size + 1 + 1 ≠ bBt := fun e => nBtB6 e.symm
  have nBtB7 : bBt ≠ w.heap.size + 1 + 1 + 1 := fun e => by have := lB7; omega
  have nB7Bt : w.heap.size + 1 + 1 + 1 ≠ bBt := fun e => nBtB7 e.symm
  have nBtB9 : bBt ≠ bB9 := fun e => by have := lB9; omega
  have nB9Bt : bB9 ≠ bBt := fun e => nBtB9 e.symm
  have nBtB10 : bBt ≠ bB10 := fun e => by have := lB10; omega
  have nB10Bt : bB10 ≠ bBt := fun e => nBtB10 e.symm
  have nBsBt : bBs ≠ bBt := fun e => hap 33 42 (by omega) (by omega) (by omega) rfl rfl (by rw [hνBs, hνBt, e])
  have nBtBs : bBt ≠ bBs := fun e => hap 42 33 (by omega) (by omega) (by omega) rfl rfl (by rw [hνBt, hνBs, e])
  simp only [hνBs, hνBt]
  clear hνBs hνBt
  clear hap
  have gBs := Nat.le_trans HW.out.size hBBs
  clear hBBs
  have gBt := Nat.le_trans HW.out.size hBBt
  clear hBBt
  clear lB4 cB4 fB4 lB5 cB5 fB5 lB6 cB6 fB6 lB7 cB7 fB7 lB9 cB9 fB9 lB10 cB10 fB10
  replace B4 := Lib.hid (B4.out.later hb)
  replace B5 := Lib.hid (B5.out.later hb)
  replace B6 := Lib.hid (B6.out.later hb)
  replace B7 := Lib.hid (B7.out.later hb)
  replace B9 := Lib.hid (B9.out.later hb)
  replace B10 := Lib.hid (B10.out.later hb)
  replace HW := Lib.hid (HW.out.trans (hb.mono HW.out.size))
  clear hb
  have Bs := Lib.hid hXBs
  clear hXBs
  have Bt := Lib.hid hXBt
  clear hXBt
  obtain ⟨lB4, cB4, fB4⟩ := B4.out
  obtain ⟨lB5, cB5, fB5⟩ := B5.out
  obtain ⟨lB6, cB6, fB6⟩ := B6.out
  obtain ⟨lB7, cB7, fB7⟩ := B7.out
  obtain ⟨lB9, cB9, fB9⟩ := B9.out
  obtain ⟨lB10, cB10, fB10⟩ := B10.out
  obtain ⟨lBs, cBs, fBs⟩ := Bs.out
  obtain ⟨lBt, cBt, fBt⟩ := Bt.out
  clear hf
  clear lBs cBs fBs Bs
  clear lBt cBt fBt Bt
  go_wp2_with fail
  refine awakeSpan.mono ?_
  rintro e w9 ⟨rfl, hb9⟩
  clear lB4 cB4 fB4 lB5 cB5 fB5 lB6 cB6 fB6 lB7 cB7 fB7 lB9 cB9 fB9 lB10 cB10 fB10
  replace B4 := Lib.hid (B4.out.later hb9)
  replace B5 := Lib.hid (B5.out.later hb9)
  replace B6 := Lib.hid (B6.out.later hb9)
  replace B7 := Lib.hid (B7.out.later hb9)
  replace B9 := Lib.hid (B9.out.later hb9)
  replace B10 := Lib.hid (B10.out.later hb9)
  replace HW := Lib.hid (HW.out.trans (hb9.mono HW.out.size))
  clear hb9
  obtain ⟨lB4, cB4, fB4⟩ := B4.out
  obtain ⟨lB5, cB5, fB5⟩ := B5.out
  obtain ⟨lB6, cB6, fB6⟩ := B6.out
  obtain ⟨lB7, cB7, fB7⟩ := B7.out
  obtain ⟨lB9, cB9, fB9⟩ := B9.out
  obtain ⟨lB10, cB10, fB10⟩ := B10.out
  go_wp2
  go_ret
  exact ⟨rfl, HW.out⟩
end Go.Proofs.Ytppnmdplojemcaa
