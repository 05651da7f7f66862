/- What the claim needs, part 39. -/
import Derived.Test.YtjmikinbdclfbaaCC30
import Derived.Test.YtjmikinbdclfbaaCC38
import Derived.Test.YtjmikinbdclfbaaCC34
import Derived.OwnWalk
import Derived.Test.YtjmikinbdclfbaaCC21
import Derived.Test.YtjmikinbdclfbaaCC29
import Derived.Test.YtjmikinbdclfbaaCC3
namespace Go.Proofs.Ytjmikinbdclfbaa
set_option linter.unusedSimpArgs false
set_option linter.unusedVariables false
open Go.RowKit
def Cap {α : Type} (fuel : Nat) (r : Res α) : Prop := r.st.steps ≤ fuel
theorem stepS_cap {fuel : Nat} {s : RunS} (h : s.steps ≤ fuel) : Cap fuel (stepS fuel s) := by
  unfold Cap stepS
  split
  · exact h
  · show s.steps + 1 ≤ fuel; omega
theorem bind_cap {α β : Type} {fuel : Nat} {r : Res α} {k : α → RunS → Res β} (h : Cap fuel r) (hk : ∀ x s1, s1.steps ≤ fuel → Cap fuel (k x s1)) : Cap fuel (r.bind k) := by
  cases r with
  | go x s1 => exact hk x s1 h
  | over o s1 => exact h
theorem idle_cap {α : Type} {fuel : Nat} {r : Res α} {s : RunS} (h : Idle 0 s r.st) (hs : s.steps ≤ fuel) : Cap fuel r := by
  have := h.2.2
  unfold Cap; omega
theorem oneS_cap {fuel : Nat} (x : InstrD) {s : RunS} (h : s.steps ≤ fuel) : Cap fuel (oneS fuel x s) := by
  unfold oneS
  refine bind_cap (stepS_cap h) fun _ s1 h1 => bind_cap (idle_cap (instrS_idle x s1) h1) fun v s2 h2 => ?_
  have := (putS_idle x v s2).2.2
  show (putS x v s2).steps ≤ fuel
  omega
theorem codeS_cap {fuel : Nat} : ∀ (xs : List InstrD) {s : RunS}, s.steps ≤ fuel → Cap fuel (codeS fuel xs s)
  | [], s, h => h
  | x :: xs, s, h => bind_cap (oneS_cap x h) fun _ s1 h1 => codeS_cap xs h1
theorem blockR_cap {f : FuncD} {fuel : Nat} (src : Int) (at_ : Nat) {s : RunS} (h : s.steps ≤ fuel) : Cap fuel (blockR f fuel src at_ s) := by
  unfold blockR
  have h0 : Idle 0 (visitS at_ s) (phisR (f.blocks.getD at_ default) src (visitS at_ s)) := putsS_idle _ _
  refine bind_cap (codeS_cap _ ?_) fun _ s1 h1 => bind_cap (stepS_cap h1) fun _ s2 h2 => idle_cap (endR_idle _ s2) h2
  have h1 := h0.2.2
  have e : (visitS at_ s).steps = s.steps := rfl
  omega
theorem runN_cap {f : FuncD} {fuel : Nat} : ∀ {n : Nat} {src : Int} {at_ : Nat} {s s' : RunS} {o : OverD}, s.steps ≤ fuel → runN f fuel n src at_ s = some (o, s') → s'.steps ≤ fuel
  | 0, _, _, _, _, _, _, h => by simp [runN] at h
  | n + 1, src, at_, s, s', o, hs, h => by
    have hx := blockR_cap (f := f) src at_ hs
    unfold runN at h
    cases hb : blockR f fuel src at_ s with
    | over o1 s1 =>
      rw [hb] at h hx
      injection h with e
      injection e with e1 e2
      rw [← e2]; exact hx
    | go to s1 =>
      rw [hb] at h hx
      exact runN_cap hx h
theorem runN_each {f : FuncD} {fuel : Nat} : ∀ {n : Nat} {src : Int} {a : Nat} {s s' : RunS} {o : OverD}, (∀ b, b < s.visits.length ∨ vis s b = 0) → runN f fuel n src a s = some (o, s') → ∀ b, vis s' b + s.steps ≤ vis s b + s'.steps + 1
  | 0, _, _, _, _, _, _, h, _ => by simp [runN] at h
  | n + 1, src, a, s, s', o, hz, h, b => by
    obtain ⟨b1, b2, b3⟩ := blockR_count f fuel src a s
    have hv : vis (blockR f fuel src a s).st b ≤ vis s b + 1 := by
      unfold vis
      rw [b1, List.getD_eq_getElem?_getD, List.getD_eq_getElem?_getD, List.getElem?_modify]
      cases s.visits[b]? with
      | none => simp
      | some q => simp; split <;> omega
    unfold runN at h
    cases hb : blockR f fuel src a s with
    | over o1 s1 =>
      rw [hb] at h hv b2
      injection h with e
      injection e with e1 e2
      subst e2
      simp only [Res.st] at hv b2
      omega
    | go to s1 =>
      rw [hb] at h hv b1 b2
      simp only [Res.st] at hv b1 b2
      have hz1 : ∀ b, b < s1.visits.length ∨ vis s1 b = 0 := fun c => by
        by_cases hc : c < s1.visits.length
        · exact .inl hc
        · right; unfold vis; rw [List.getD_eq_getElem?_getD, List.getElem?_eq_none (by omega)]; rfl
      have ih := runN_each hz1 h b
      -- a block that goes on has taken a step
      have hstep : s.steps + 1 ≤ s1.steps := by
        unfold blockR at hb
        cases hc : codeS fuel (f.blocks.getD a default).code (phisR (f.blocks.getD a default) src (visitS a s)) with
        | over o2 s2 => rw [hc] at hb; cases hb
        | go u s2 =>
          rw [hc] at hb
          have h0 : Idle 0 (visitS a s) (phisR (f.blocks.getD a default) src (visitS a s)) := putsS_idle _ _
          have h1 := codeS_idle fuel (f.blocks.getD a default).code (phisR (f.blocks.getD a default) src (visitS a s))
          rw [hc] at h1
          have k0 := h0.2.1
          have k1 := h1.2.1
          have e : (visitS a s).steps = s.steps := rfl
          change (stepS fuel s2).bind (fun _ s3 => endR (f.blocks.getD a default).term s3) = _ at hb
          cases hs : stepS fuel s2 with
          | over o3 s3 => rw [hs] at hb; cases hb
          | go u3 s3 =>
            rw [hs] at hb
            have k2 := endR_idle (f.blocks.getD a default).term s3
            change endR (f.blocks.getD a default).term s3 = _ at hb
            rw [hb] at k2
            have k3 := k2.2.1
            have e3 : s3.steps = s2.steps + 1 := by
              unfold stepS at hs
              split at hs
              · cases hs
              · injection hs with _ hs; rw [← hs]
            simp only [Res.st] at k1 k3
            omega
      omega
end Go.Proofs.Ytjmikinbdclfbaa
namespace Go.Proofs.Ytjmikinbdclfbaa
set_option linter.unusedSimpArgs false
set_option linter.unusedVariables false
open Go.RowKit
theorem sumOf_zero {v : Nat → Nat} (h : ∀ b, v b = 0) : ∀ (xs : List Nat), sumOf v xs = 0
  | [] => rfl
  | x :: xs => by
    have := sumOf_zero h xs
    unfold sumOf at this ⊢
    simp only [List.map_cons, List.sum_cons]
    rw [h x, this]
theorem pred_none {f : FuncD} (hc : checkF f = 0) : predN f f.blocks.length 0 0 = [] := by
  rw [predN_zero, List.filter_eq_nil_iff]
  intro b _ h
  have := (to_lt (check_fine hc).1 (List.contains_iff_mem.1 h)).2
  omega
theorem visits_law {f : FuncD} {i : InputD} {fuel : Nat} (hfu : fuel < 2000) {t : TraceD} (h : RunP f i fuel t) (h6 : t.how ≠ 6) :
    checkF f = 0 ∧ ∃ v : Nat → Nat, t.visits = (List.range f.blocks.length).map (fun d => (v d : Int)) ∧ v 0 = 1 ∧ (∀ b, 0 < b → v b ≤ sumOf v (predN f f.blocks.length 0 b)) ∧ (∀ d, toB f d = [] → v d ≤ 1) ∧ t.steps ≤ ((mostS f v : Nat) : Int) ∧ ∀ b, v b ≤ 2000 := by
  rcases h with ⟨rfl, -⟩ | ⟨hc, hF, -, o, s, hr, rfl⟩
  · exact absurd rfl h6
  · have e1 : (min (fuel : Int) 200000).toNat = fuel := by omega
    rw [e1] at hr
    obtain ⟨n, hr⟩ := hr
    have hz : ∀ b, vis (startS f i) b = 0 := fun b => by
      show (List.replicate f.blocks.length 0).getD b 0 = 0
      rw [List.getD_eq_getElem?_getD, List.getElem?_replicate]
      split <;> rfl
    have hC := run_visits hc hF (.inl ⟨rfl, rfl⟩) (GoodS.start hc) hr
    have hcap := runN_cap (s := startS f i) (Nat.zero_le _) hr
    have hea := runN_each (fun b => .inr (hz b)) hr
    refine ⟨hc, vis s, ?_, ?_, fun b hb => ?_, fun d hd => ?_, ?_, fun b => ?_⟩
    · show s.visits.map (fun n : Nat => (n : Int)) = _
      have hl : s.visits.length = f.blocks.length := by
        rw [hC.len]; show (List.replicate f.blocks.length 0).length = _; rw [List.length_replicate]
      refine List.ext_getElem? fun k => ?_
      rw [List.getElem?_map, List.getElem?_map]
      by_cases hk : k < f.blocks.length
      · rw [List.getElem?_range hk, List.getElem?_eq_getElem (by omega)]
        show some _ = some _
        congr 1
        show ((s.visits[k] : Nat) : Int) = ((s.visits.getD k 0 : Nat) : Int)
        rw [List.getD_eq_getElem?_getD, List.getElem?_eq_getElem (by omega)]; rfl
      · rw [List.getElem?_eq_none (by omega), List.getElem?_eq_none (by rw [List.length_range]; omega)]; rfl
    · have h1 := hC.come 0
      rw [pred_none hc, if_pos rfl, hz 0] at h1
      have h2 := hC.here
      rw [hz 0] at h2
      have e : ∀ v : Nat → Nat, sumOf v [] = 0 := fun _ => rfl
      rw [e, e] at h1
      omega
    · have h1 := hC.come b
      rw [if_neg (by omega), hz b, sumOf_zero hz] at h1
      omega
    · have h1 := hC.last d hd
      rw [hz d] at h1
      omega
    · show ((s.steps : Nat) : Int) ≤ _
      have h1 := hC.steps
      have h2 : mostS f (vis (startS f i)) = 0 := sumOf_zero (fun d => by rw [hz d, Nat.mul_zero]) _
      have h3 : (startS f i).steps = 0 := rfl
      rw [h2, h3] at h1
      omega
    · have h1 := hea b
      rw [hz b] at h1
      have h3 : (startS f i).steps = 0 := rfl
      rw [h3] at h1
      omega
end Go.Proofs.Ytjmikinbdclfbaa
namespace Go.Proofs.Ytjmikinbdclfbaa
set_option linter.unusedSimpArgs false
set_option linter.unusedVariables false
open Go.RowKit
def alikeT (t u : TraceD) : Bool := (t.how == u.how) && (t.value == u.value) && (t.trap == u.trap) && decide (t.out = u.out) && decide (t.arrays = u.arrays)
def sameT (t u : TraceD) : Bool := alikeT t u && (t.steps == u.steps) && (t.checks == u.checks) && decide (t.visits = u.visits)
theorem sameT_self (t : TraceD) : sameT t t = true := by simp [sameT, alikeT]
def TellsR (b : Bool) (w : World) (e : Ending) (w' : World) : Prop := e = .returned (.bool b) ∧ Below w.heap.size w w'
theorem below_drew (w : World) (n : Nat) : Below w.heap.size w (w.drewN n) := ⟨rfl, rfl, rfl, Nat.le_refl _, fun _ _ => rfl⟩
set_option maxHeartbeats 6400000 in
theorem refAlike {w : World} {v v' : Value} {t u : TraceD} (ht : TraceV w v t) (hu : TraceV w v' u) : Calls Try.prog 29 #[v, v'] w (TellsR (alikeT t u) w) := by
  rcases t with ⟨x0, x1, x2, xo, xa, x5, x6, xv⟩
  rcases u with ⟨y0, y1, y2, yo, ya, y5, y6, yv⟩
  obtain ⟨o1, a1, v1, rfl, ho1, ha1, hv1⟩ := ht
  obtain ⟨o2, a2, v2, rfl, ho2, ha2, hv2⟩ := hu
  simp only at ho1 ha1 hv1 ho2 ha2 hv2 ⊢
  have HO1 := Lib.hid ho1
  have HO2 := Lib.hid ho2
  have HA1 := Lib.hid ha1
  have HA2 := Lib.hid ha2
  obtain ⟨b1, c1, rfl⟩ := ho1.form
  obtain ⟨b2, c2, rfl⟩ := ho2.form
  obtain ⟨b3, c3, rfl⟩ := hv1.form
  obtain ⟨b4, c4, rfl⟩ := hv2.form
  obtain ⟨_, b5, c5, _, _, rfl, -, -, -, -, -, -⟩ := ha1.parts
  obtain ⟨_, b6, c6, _, _, rfl, -, -, -, -, -, -⟩ := ha2.parts
  clear ho1 ho2 ha1 ha2 hv1 hv2
  go_enter Try.func29, Try.ntmps29
  go_upto_region 1 with (fail)
  have B2 : Hid (Box ((w.alloc (.cells #[.int .i64 x0, .int .i64 x1, .int .i64 x2, .slice b1 xo.length c1, .slice b5 xa.length c5, .int .i64 x5, .int .i64 x6, .slice b3 xv.length c3] 37)).alloc (.cells #[.int .i64 y0, .int .i64 y1, .int .i64 y2, .slice b2 yo.length c2, .slice b6 ya.length c6, .int .i64 y5, .int .i64 y6, .slice b4 yv.length c4] 37)) (w.heap.size) #[.int .i64 x0, .int .i64 x1, .int .i64 x2, .slice b1 xo.length c1, .slice b5 xa.length c5, .int .i64 x5, .int .i64 x6, .slice b3 xv.length c3]) := Lib.hid (by simpa using ((Box.new w #[.int .i64 x0, .int .i64 x1, .int .i64 x2, .slice b1 xo.length c1, .slice b5 xa.length c5, .int .i64 x5, .int .i64 x6, .slice b3 xv.length c3] 37).alloc _))
  have B3 : Hid (Box ((w.alloc (.cells #[.int .i64 x0, .int .i64 x1, .int .i64 x2, .slice b1 xo.length c1, .slice b5 xa.length c5, .int .i64 x5, .int .i64 x6, .slice b3 xv.length c3] 37)).alloc (.cells #[.int .i64 y0, .int .i64 y1, .int .i64 y2, .slice b2 yo.length c2, .slice b6 ya.length c6, .int .i64 y5, .int .i64 y6, .slice b4 yv.length c4] 37)) (w.heap.size + 1) #[.int .i64 y0, .int .i64 y1, .int .i64 y2, .slice b2 yo.length c2, .slice b6 ya.length c6, .int .i64 y5, .int .i64 y6, .slice b4 yv.length c4]) := Lib.hid (by simpa using (Box.new (w.alloc (.cells #[.int .i64 x0, .int .i64 x1, .int .i64 x2, .slice b1 xo.length c1, .slice b5 xa.length c5, .int .i64 x5, .int .i64 x6, .slice b3 xv.length c3] 37)) #[.int .i64 y0, .int .i64 y1, .int .i64 y2, .slice b2 yo.length c2, .slice b6 ya.length c6, .int .i64 y5, .int .i64 y6, .slice b4 yv.length c4] 37))
  have HW : Hid (Below w.heap.size w ((w.alloc (.cells #[.int .i64 x0, .int .i64 x1, .int .i64 x2, .slice b1 xo.length c1, .slice b5 xa.length c5, .int .i64 x5, .int .i64 x6, .slice b3 xv.length c3] 37)).alloc (.cells #[.int .i64 y0, .int .i64 y1, .int .i64 y2, .slice b2 yo.length c2, .slice b6 ya.length c6, .int .i64 y5, .int .i64 y6, .slice b4 yv.length c4] 37))) := Lib.hid (((Below.refl _ _).alloc (Nat.le_refl _) _).alloc (by simp) _)
  generalize ((w.alloc (.cells #[.int .i64 x0, .int .i64 x1, .int .i64 x2, .slice b1 xo.length c1, .slice b5 xa.length c5, .int .i64 x5, .int .i64 x6, .slice b3 xv.length c3] 37)).alloc (.cells #[.int .i64 y0, .int .i64 y1, .int .i64 y2, .slice b2 yo.length c2, .slice b6 ya.length c6, .int .i64 y5, .int .i64 y6, .slice b4 yv.length c4] 37)) = wv at *
  obtain ⟨lB2, cB2, fB2⟩ := B2.out
  obtain ⟨lB3, cB3, fB3⟩ := B3.out
  cases q0 : (x0 == y0)
  · have HRES : Hid (alikeT ⟨x0, x1, x2, xo, xa, x5, x6, xv⟩ ⟨y0, y1, y2, yo, ya, y5, y6, yv⟩ = false) := Lib.hid (by simp [alikeT, q0])
    go_wp2
    go_ret
    exact ⟨by rw [HRES.out]; rfl, HW.out⟩
  cases q1 : (x1 == y1)
  · have HRES : Hid (alikeT ⟨x0, x1, x2, xo, xa, x5, x6, xv⟩ ⟨y0, y1, y2, yo, ya, y5, y6, yv⟩ = false) := Lib.hid (by simp [alikeT, q0, q1])
    go_wp2
    go_ret
    exact ⟨by rw [HRES.out]; rfl, HW.out⟩
  cases q2 : (x2 == y2)
  · have HRES : Hid (alikeT ⟨x0, x1, x2, xo, xa, x5, x6, xv⟩ ⟨y0, y1, y2, yo, ya, y5, y6, yv⟩ = false) := Lib.hid (by simp [alikeT, q0, q1, q2])
    go_wp2
    go_ret
    exact ⟨by rw [HRES.out]; rfl, HW.out⟩
  have HQ := Lib.hid (show (x0 == y0) = true ∧ (x1 == y1) = true ∧ (x2 == y2) = true from ⟨q0, q1, q2⟩)
  go_wp2_with fail
  refine (sameInts (HO1.out.below HW.out) (HO2.out.below HW.out)).mono ?_
  rintro e w2 ⟨rfl, n, rfl⟩
  have hb := below_drew wv n
  generalize wv.drewN n = w2 at *
  clear lB2 cB2 fB2 lB3 cB3 fB3
  replace B2 := Lib.hid (B2.out.later hb)
  replace B3 := Lib.hid (B3.out.later hb)
  replace HW := Lib.hid (HW.out.trans (hb.mono HW.out.size))
  clear hb
  obtain ⟨lB2, cB2, fB2⟩ := B2.out
  obtain ⟨lB3, cB3, fB3⟩ := B3.out
  cases q3 : decide (xo = yo)
  · have HRES : Hid (alikeT ⟨x0, x1, x2, xo, xa, x5, x6, xv⟩ ⟨y0, y1, y2, yo, ya, y5, y6, yv⟩ = false) := Lib.hid (by simp only [alikeT, q3]; simp)
    go_wp2
    go_ret
    exact ⟨by rw [HRES.out]; rfl, HW.out⟩
  have HQ3 := Lib.hid q3
  go_wp2_with fail
  refine (sameLists (HA1.out.below HW.out) (HA2.out.below HW.out)).mono ?_
  rintro e w3 ⟨rfl, hb⟩
  have HRES : Hid (alikeT ⟨x0, x1, x2, xo, xa, x5, x6, xv⟩ ⟨y0, y1, y2, yo, ya, y5, y6, yv⟩ = decide (xa = ya)) := Lib.hid (by simp only [alikeT, q3, q0, q1, q2]; simp)
  clear lB2 cB2 fB2 lB3 cB3 fB3
  replace B2 := Lib.hid (B2.out.later hb)
  replace B3 := Lib.hid (B3.out.later hb)
  replace HW := Lib.hid (HW.out.trans (hb.mono HW.out.size))
  clear hb
  obtain ⟨lB2, cB2, fB2⟩ := B2.out
  obtain ⟨lB3, cB3, fB3⟩ := B3.out
  go_wp2
  go_ret
  exact ⟨by rw [HRES.out]; rfl, HW.out⟩
set_option maxHeartbeats 6400000 in
theorem refSame {w : World} {v v' : Value} {t u : TraceD} (ht : TraceV w v t) (hu : TraceV w v' u) : Calls Try.prog 14 #[v, v'] w (TellsR (sameT t u) w) := by
  have HT := Lib.hid ht
  have HU := Lib.hid hu
  rcases t with ⟨x0, x1, x2, xo, xa, x5, x6, xv⟩
  rcases u with ⟨y0, y1, y2, yo, ya, y5, y6, yv⟩
  obtain ⟨o1, a1, v1, rfl, ho1, ha1, hv1⟩ := ht
  obtain ⟨o2, a2, v2, rfl, ho2, ha2, hv2⟩ := hu
  simp only at ho1 ha1 hv1 ho2 ha2 hv2 HT HU ⊢
  have HO1 := Lib.hid hv1
  have HO2 := Lib.hid hv2
  obtain ⟨b1, c1, rfl⟩ := ho1.form
  obtain ⟨b2, c2, rfl⟩ := ho2.form
  obtain ⟨b3, c3, rfl⟩ := hv1.form
  obtain ⟨b4, c4, rfl⟩ := hv2.form
  obtain ⟨_, b5, c5, _, _, rfl, -, -, -, -, -, -⟩ := ha1.parts
  obtain ⟨_, b6, c6, _, _, rfl, -, -, -, -, -, -⟩ := ha2.parts
  clear ho1 ho2 ha1 ha2 hv1 hv2
  go_enter Try.func14, Try.ntmps14
  go_upto_region 1 with (fail)
  have B2 : Hid (Box ((w.alloc (.cells #[.int .i64 x0, .int .i64 x1, .int .i64 x2, .slice b1 xo.length c1, .slice b5 xa.length c5, .int .i64 x5, .int .i64 x6, .slice b3 xv.length c3] 37)).alloc (.cells #[.int .i64 y0, .int .i64 y1, .int .i64 y2, .slice b2 yo.length c2, .slice b6 ya.length c6, .int .i64 y5, .int .i64 y6, .slice b4 yv.length c4] 37)) (w.heap.size) #[.int .i64 x0, .int .i64 x1, .int .i64 x2, .slice b1 xo.length c1, .slice b5 xa.length c5, .int .i64 x5, .int .i64 x6, .slice b3 xv.length c3]) := Lib.hid (by simpa using ((Box.new w #[.int .i64 x0, .int .i64 x1, .int .i64 x2, .slice b1 xo.length c1, .slice b5 xa.length c5, .int .i64 x5, .int .i64 x6, .slice b3 xv.length c3] 37).alloc _))
  have B3 : Hid (Box ((w.alloc (.cells #[.int .i64 x0, .int .i64 x1, .int .i64 x2, .slice b1 xo.length c1, .slice b5 xa.length c5, .int .i64 x5, .int .i64 x6, .slice b3 xv.length c3] 37)).alloc (.cells #[.int .i64 y0, .int .i64 y1, .int .i64 y2, .slice b2 yo.length c2, .slice b6 ya.length c6, .int .i64 y5, .int .i64 y6, .slice b4 yv.length c4] 37)) (w.heap.size + 1) #[.int .i64 y0, .int .i64 y1, .int .i64 y2, .slice b2 yo.length c2, .slice b6 ya.length c6, .int .i64 y5, .int .i64 y6, .slice b4 yv.length c4]) := Lib.hid (by simpa using (Box.new (w.alloc (.cells #[.int .i64 x0, .int .i64 x1, .int .i64 x2, .slice b1 xo.length c1, .slice b5 xa.length c5, .int .i64 x5, .int .i64 x6, .slice b3 xv.length c3] 37)) #[.int .i64 y0, .int .i64 y1, .int .i64 y2, .slice b2 yo.length c2, .slice b6 ya.length c6, .int .i64 y5, .int .i64 y6, .slice b4 yv.length c4] 37))
  have HW : Hid (Below w.heap.size w ((w.alloc (.cells #[.int .i64 x0, .int .i64 x1, .int .i64 x2, .slice b1 xo.length c1, .slice b5 xa.length c5, .int .i64 x5, .int .i64 x6, .slice b3 xv.length c3] 37)).alloc (.cells #[.int .i64 y0, .int .i64 y1, .int .i64 y2, .slice b2 yo.length c2, .slice b6 ya.length c6, .int .i64 y5, .int .i64 y6, .slice b4 yv.length c4] 37))) := Lib.hid (((Below.refl _ _).alloc (Nat.le_refl _) _).alloc (by simp) _)
  generalize ((w.alloc (.cells #[.int .i64 x0, .int .i64 x1, .int .i64 x2, .slice b1 xo.length c1, .slice b5 xa.length c5, .int .i64 x5, .int .i64 x6, .slice b3 xv.length c3] 37)).alloc (.cells #[.int .i64 y0, .int .i64 y1, .int .i64 y2, .slice b2 yo.length c2, .slice b6 ya.length c6, .int .i64 y5, .int .i64 y6, .slice b4 yv.length c4] 37)) = wv at *
  obtain ⟨lB2, cB2, fB2⟩ := B2.out
  obtain ⟨lB3, cB3, fB3⟩ := B3.out
  go_wp2_with fail
  refine (refAlike (HT.out.below HW.out) (HU.out.below HW.out)).mono ?_
  rintro e w2 ⟨rfl, hb⟩
  clear lB2 cB2 fB2 lB3 cB3 fB3
  replace B2 := Lib.hid (B2.out.later hb)
  replace B3 := Lib.hid (B3.out.later hb)
  replace HW := Lib.hid (HW.out.trans (hb.mono HW.out.size))
  clear hb
  obtain ⟨lB2, cB2, fB2⟩ := B2.out
  obtain ⟨lB3, cB3, fB3⟩ := B3.out
  obtain ⟨r, hr⟩ : ∃ r, r = alikeT ⟨x0, x1, x2, xo, xa, x5, x6, xv⟩ ⟨y0, y1, y2, yo, ya, y5, y6, yv⟩ := ⟨_, rfl⟩
  have HD : Hid (sameT ⟨x0, x1, x2, xo, xa, x5, x6, xv⟩ ⟨y0, y1, y2, yo, ya, y5, y6, yv⟩ = (r && (x5 == y5) && (x6 == y6) && decide (xv = yv))) := Lib.hid (by rw [hr]; rfl)
  rw [← hr]
  clear hr
  cases r
  · have HRES : Hid (sameT ⟨x0, x1, x2, xo, xa, x5, x6, xv⟩ ⟨y0, y1, y2, yo, ya, y5, y6, yv⟩ = false) := Lib.hid (by rw [HD.out]; rfl)
    go_wp2
    go_ret
    exact ⟨by rw [HRES.out]; rfl, HW.out⟩
  cases q1 : (x5 == y5)
  · have HRES : Hid (sameT ⟨x0, x1, x2, xo, xa, x5, x6, xv⟩ ⟨y0, y1, y2, yo, ya, y5, y6, yv⟩ = false) := Lib.hid (by rw [HD.out, q1]; rfl)
    go_wp2
    go_ret
    exact ⟨by rw [HRES.out]; rfl, HW.out⟩
  cases q2 : (x6 == y6)
  · have HRES : Hid (sameT ⟨x0, x1, x2, xo, xa, x5, x6, xv⟩ ⟨y0, y1, y2, yo, ya, y5, y6, yv⟩ = false) := Lib.hid (by rw [HD.out, q1, q2]; rfl)
    go_wp2
    go_ret
    exact ⟨by rw [HRES.out]; rfl, HW.out⟩
  have HD2 : Hid (sameT ⟨x0, x1, x2, xo, xa, x5, x6, xv⟩ ⟨y0, y1, y2, yo, ya, y5, y6, yv⟩ = decide (xv = yv)) := Lib.hid (by rw [HD.out, q1, q2]; rfl)
  go_wp2_with fail
  refine (sameInts (HO1.out.below HW.out) (HO2.out.below HW.out)).mono ?_
  rintro e w3 ⟨rfl, n, rfl⟩
  have hb := below_drew w2 n
  generalize w2.drewN n = w3 at *
  clear lB2 cB2 fB2 lB3 cB3 fB3
  replace B2 := Lib.hid (B2.out.later hb)
  replace B3 := Lib.hid (B3.out.later hb)
  replace HW := Lib.hid (HW.out.trans (hb.mono HW.out.size))
  clear hb
  obtain ⟨lB2, cB2, fB2⟩ := B2.out
  obtain ⟨lB3, cB3, fB3⟩ := B3.out
  have HRES := HD2
  go_wp2
  go_ret
  exact ⟨by rw [HRES.out]; rfl, HW.out⟩
end Go.Proofs.Ytjmikinbdclfbaa
namespace Go.Proofs.Ytjmikinbdclfbaa
set_option linter.unusedSimpArgs false
set_option linter.unusedVariables false
open Go.RowKit
theorem simplest_fault : FaultR simplest 0 0 := by
  refine .inr ⟨fun d hd => ?_, .inr ⟨fun d y hy => ?_, .inr ⟨fun v hv => ?_, rfl, rfl⟩⟩⟩
  · have h1 : d < 1 := hd
    obtain rfl : d = 0 := by omega
    exact .zero (by decide)
  · have h1 := (List.getElem?_eq_some_iff.1 hy).1
    have h2 : d < 1 := h1
    obtain rfl : d = 0 := by omega
    have h3 : some (⟨[], [⟨1, 0, [], 5⟩], ⟨3, 0, [], 0⟩⟩ : BlockD) = some y := hy
    injection h3 with h3
    rw [← h3]; rfl
  · have h9 : ∀ v ∈ uxF simplest, v.id = 0 ∧ v.blk = 0 ∧ v.pos = 1 := by decide
    obtain ⟨h1, h2, h3⟩ := h9 v hv
    exact ⟨0, 0, by rw [h1, entF_simplest]; rfl, .inr ⟨by omega, .inl ⟨h2.symm, by omega⟩⟩⟩
theorem simplest_run : ∃ s1, blockR simplest 9 (-1) 0 (startS simplest ⟨[], []⟩) = .over ⟨1, 5, 0⟩ s1 ∧ s1.steps = 2 := ⟨_, rfl, rfl⟩
theorem simplest_trace {t : TraceD} (h : RunP simplest ⟨[], []⟩ 9 t) : t.how = 1 ∧ t.value = 5 ∧ t.steps = 2 := by
  rcases h with ⟨-, hn⟩ | ⟨-, -, -, o, s, hr, rfl⟩
  · exact absurd ⟨simplest_ok.1, simplest_fault, by omega⟩ hn
  · obtain ⟨s1, h1, h2⟩ := simplest_run
    obtain ⟨rfl, rfl⟩ := hr.one (Runs.over h1)
    exact ⟨rfl, rfl, by show ((s.steps : Nat) : Int) = 2; rw [h2]; rfl⟩
set_option maxHeartbeats 6400000 in
theorem awake6 {w : World} : Calls Try.prog 12 #[] w (TellsR true w) := by
  go_enter Try.func12, Try.ntmps12
  go_wp2_with fail
  have B0 : Hid (Box ((w.alloc (.cells #[.int .i64 1, .int .i64 0, .slice none 0 0, .int .i64 5] 70)).alloc (.cells #[.slice none 0 0, .slice (some ⟨w.heap.size, 0, none⟩) 1 1, .int .i64 3, .int .i64 0, .slice none 0 0, .int .i64 0] 49)) (w.heap.size) #[.int .i64 1, .int .i64 0, .slice none 0 0, .int .i64 5]) := Lib.hid (by simpa using ((Box.new w #[.int .i64 1, .int .i64 0, .slice none 0 0, .int .i64 5] 70).alloc _))
  have B1 : Hid (Box ((w.alloc (.cells #[.int .i64 1, .int .i64 0, .slice none 0 0, .int .i64 5] 70)).alloc (.cells #[.slice none 0 0, .slice (some ⟨w.heap.size, 0, none⟩) 1 1, .int .i64 3, .int .i64 0, .slice none 0 0, .int .i64 0] 49)) (w.heap.size + 1) #[.slice none 0 0, .slice (some ⟨w.heap.size, 0, none⟩) 1 1, .int .i64 3, .int .i64 0, .slice none 0 0, .int .i64 0]) := Lib.hid (by simpa using (Box.new (w.alloc (.cells #[.int .i64 1, .int .i64 0, .slice none 0 0, .int .i64 5] 70)) #[.slice none 0 0, .slice (some ⟨w.heap.size, 0, none⟩) 1 1, .int .i64 3, .int .i64 0, .slice none 0 0, .int .i64 0] 49))
  have HW : Hid (Below w.heap.size w ((w.alloc (.cells #[.int .i64 1, .int .i64 0, .slice none 0 0, .int .i64 5] 70)).alloc (.cells #[.slice none 0 0, .slice (some ⟨w.heap.size, 0, none⟩) 1 1, .int .i64 3, .int .i64 0, .slice none 0 0, .int .i64 0] 49))) := Lib.hid (((Below.refl _ _).alloc (Nat.le_refl _) _).alloc (by simp) _)
  generalize ((w.alloc (.cells #[.int .i64 1, .int .i64 0, .slice none 0 0, .int .i64 5] 70)).alloc (.cells #[.slice none 0 0, .slice (some ⟨w.heap.size, 0, none⟩) 1 1, .int .i64 3, .int .i64 0, .slice none 0 0, .int .i64 0] 49)) = wv at *
  obtain ⟨lB0, cB0, fB0⟩ := B0.out
  obtain ⟨lB1, cB1, fB1⟩ := B1.out
  refine (runC (i := ⟨[], []⟩) (simplest_val B0.out B1.out) ⟨_, _, rfl, Ints.nil, ⟨[], rfl, Row.nil, fun j hj => absurd hj (by show ¬ j < 0; omega)⟩⟩ ⟨by decide, by decide⟩).mono ?_
  rintro e w2 ⟨v, t, rfl, hp, ht, hb⟩
  obtain ⟨p1, p2, p3⟩ := simplest_trace hp
  obtain ⟨ov, av, vv, rfl, ho, ha, hv⟩ := ht
  obtain ⟨b1, c1, rfl⟩ := ho.form
  obtain ⟨b3, c3, rfl⟩ := hv.form
  obtain ⟨_, b5, c5, _, _, rfl, -, -, -, -, -, -⟩ := ha.parts
  rw [p1, p2, p3]
  clear ho ha hv hp p1 p2 p3
  clear lB0 cB0 fB0 lB1 cB1 fB1
  replace B0 := Lib.hid (B0.out.later hb)
  replace B1 := Lib.hid (B1.out.later hb)
  replace HW := Lib.hid (HW.out.trans (hb.mono HW.out.size))
  clear hb
  obtain ⟨lB0, cB0, fB0⟩ := B0.out
  obtain ⟨lB1, cB1, fB1⟩ := B1.out
  clear lB0 cB0 fB0 lB1 cB1 fB1
  go_wp2
  go_ret
  exact ⟨rfl, HW.out.alloc HW.out.size _⟩
end Go.Proofs.Ytjmikinbdclfbaa
namespace Go.Proofs.Ytjmikinbdclfbaa
set_option linter.unusedSimpArgs false
set_option linter.unusedVariables false
open Go.RowKit
theorem opens_lists : Opens Try.prog 32 (SliceR IntsR 1) := opens_slice Try.underlying32 (by kernel_rfl) (by kernel_rfl) (by omega) (Nat.le_of_ble_eq_true rfl : 8 ≤ 24) opens_ints
theorem lists_of {W : World} {v : Value} {xs : List (List Int)} (h : SliceOf IntsR 1 W v xs) : Lists W v xs := by
  obtain ⟨cs, h1, h2⟩ := h
  have hl := h1.len
  refine ⟨cs, by omega, h1, fun j hj => ?_⟩
  obtain ⟨u, hu, hI⟩ := h2 j _ (List.getElem?_eq_getElem hj)
  have hc0 : cs[j]? = some u := by
    have h9 := congrArg (fun l : List Value => l[0]?) hu
    simp only [List.getElem?_take, List.getElem?_drop, Nat.mul_one, Nat.add_zero] at h9
    simpa using h9
  have e1 : cs.getD j undef = u := by rw [List.getD_eq_getElem?_getD, hc0]; rfl
  have e2 : xs.getD j [] = xs[j] := by rw [List.getD_eq_getElem?_getD, List.getElem?_eq_getElem hj]; rfl
  rw [e1, e2]
  exact hI
def InputR (W : World) (cs : List Value) (i : InputD) : Prop := ∃ a b, cs = [a, b] ∧ Ints W a i.args ∧ Lists W b i.arrays
theorem opens_input : Opens Try.prog 34 InputR :=
  (opens_struct2 Try.underlying34 (s0 := 1) (s1 := 1) (by kernel_rfl) rfl rfl (by kernel_rfl) (by kernel_rfl) opens_ints opens_lists).mono
    fun W cs y ⟨d0, d1, e, _, ⟨v, e0, h0⟩, u, e1, h1⟩ => ⟨⟨y.1, y.2⟩, v, u, by rw [e, e0, e1]; rfl, h0, lists_of h1⟩
set_option maxRecDepth 100000 in
theorem get_input {H : Type} {enc : TypeId × Value → H} {W : World} {v : Value} {d : DataW H} {ps : List MemPlace} {base : Nat} (hval : Value.okWide Try.prog W .any base 34 v)
    (h : DataW.Trod enc Try.prog W 0 (fun _ => true) true 34 v d ps) (hz : ∀ n ∈ d.weights Try.prog 34, n ≤ reachBytes) : ∃ i : InputD, InputV W v i := by
  obtain ⟨cs, i, hv, hf⟩ := open_struct_val Try.underlying34 opens_input hval h hz
  obtain ⟨a, b, e, r⟩ := hf
  refine ⟨i, a, b, ?_, r⟩
  rw [hv, ← Array.toArray_toList (xs := cs), e]
end Go.Proofs.Ytjmikinbdclfbaa
