/- What the claim needs, part 34. -/
import Derived.OwnWalk
import Derived.Test.YtjmikinbdclfbaaCB33
import Derived.Test.YtjmikinbdclfbaaCB25
import Derived.Test.YtjmikinbdclfbaaCB31
namespace Go.Proofs.Ytjmikinbdclfbaa
set_option linter.unusedSimpArgs false
set_option linter.unusedVariables false
open Go.RowKit
def PhiV (W : World) (v : Value) (p : PhiD) : Prop := ∃ s u, v = .agg #[.int .i64 p.id, .int .i64 p.typ, s, u] ∧ Ints W s p.src ∧ Ints W u p.vals
theorem PhiV.below {W W' : World} {v : Value} {p : PhiD} (h : PhiV W v p) (hb : Below W.heap.size W W') : PhiV W' v p := by
  obtain ⟨s, u, e, h1, h2⟩ := h
  exact ⟨s, u, e, h1.below hb, h2.below hb⟩
set_option maxHeartbeats 3200000 in
theorem idxFunP {w : World} {v : Value} {ps : List PhiD} {k : FuncId} {cap : Array Value} (eg : Enters Try.prog k) (g : PhiD → Bool) (hv : SliceOf PhiR 4 w v ps)
    (hstep : ∀ (W : World) (p : PhiD) (pv : Value), p ∈ ps → PhiV W pv p → Below w.heap.size w W → Calls Try.prog k (#[pv] ++ cap) W fun e W' => e = .returned (.bool (g p)) ∧ Below W.heap.size W W') :
    Calls Try.prog 95 #[v, .func (.func k) #[] cap] w fun e w' => ∃ r : Int, e = .returned (.int .i64 r) ∧ decide (0 ≤ r) = ps.any g ∧ Below w.heap.size w w' := by
  obtain ⟨a1, c1, b1, o1, rfl, hc1, hm1, hl1, ha1, hx⟩ := phis_parts hv
  obtain ⟨n1, hn1⟩ : ∃ n, n = ps.length := ⟨_, rfl⟩
  rw [← hn1] at hc1 hl1 ha1 ⊢
  have G1 := Lib.hid hn1
  have HA1 := Lib.hid ha1
  have HX := Lib.hid hx
  have HW := Lib.hid (Below.refl w.heap.size w)
  have HST := Lib.hid hstep
  clear hv hn1 ha1 hx hstep
  have eg1 : ∀ (args : Array Value) (w : World), (callFunc k args).run Try.prog w = .ok (.enter k args) w := eg
  go_enter Try.func95, Try.ntmps95
  go_wp2_with fail
  go_loopw [8] (fun i wr => ∃ j : Nat, j ≤ n1 ∧ i = .int .i64 j ∧ (ps.take j).any g = false ∧ Below w.heap.size w wr) (fun i _ => n1 - (intOf i).toNat)
  case atStart => exact ⟨0, Nat.zero_le _, rfl, rfl, HW.out⟩
  case round =>
    obtain ⟨j, hj, rfl, hs, hW⟩ := hrel
    have HS := Lib.hid hs
    replace HW := Lib.hid hW
    clear hs hW
    generalize wr = w3 at *
    by_cases hlt : j < n1
    · obtain ⟨rfl, hb1⟩ := HA1.out (by omega)
      obtain ⟨p, hxm⟩ : ∃ p, ps[j]? = some p := ⟨_, List.getElem?_eq_getElem (by have := G1.out; omega)⟩
      obtain ⟨af, av, cf, cv, hP⟩ := HX.out j p hxm
      obtain ⟨m0, m1, m2, m3, r1, r2, r3, r4⟩ := hP.below HW.out hb1
      have HXM := Lib.hid (List.mem_of_getElem? hxm)
      have HTK := Lib.hid (take_snoc ps j p hxm)
      obtain ⟨c, hc⟩ : ∃ c, c = g p := ⟨_, rfl⟩
      have HC := Lib.hid hc
      have HCT := Lib.hid (HST.out w3 p (.agg #[.int .i64 p.id, .int .i64 p.typ, .slice af p.src.length cf, .slice av p.vals.length cv]) HXM.out ⟨_, _, rfl, r1, r2⟩ HW.out)
      rw [← hc] at HCT
      clear hc hxm hP r1 r2 r3 r4
      cases c
      · go_wp2_with (go_at_fn k; refine HCT.out.mono ?_; rintro e w4 ⟨rfl, hb4⟩; have HB4 := Lib.hid hb4; clear hb4)
        have HW4 := Lib.hid (HW.out.trans (HB4.out.mono HW.out.size))
        have HS2 : Hid ((ps.take (j + 1)).any g = false) := Lib.hid (by rw [HTK.out, List.any_append, HS.out]; simp [← HC.out])
        go_roundw
        case rel => exact ⟨j + 1, hlt, by go_num, HS2.out, HW4.out⟩
        case measure => simp [intOf]; omega
      · go_wp2_with (go_at_fn k; refine HCT.out.mono ?_; rintro e w4 ⟨rfl, hb4⟩; have HB4 := Lib.hid hb4; clear hb4)
        have HW4 := Lib.hid (HW.out.trans (HB4.out.mono HW.out.size))
        have HAN : Hid (ps.any g = true) := Lib.hid (by rw [List.any_eq_true]; exact ⟨p, HXM.out, HC.out.symm⟩)
        go_ret
        exact ⟨j, rfl, by rw [HAN.out]; simp, HW4.out⟩
    · have HAN : Hid (ps.any g = false) := Lib.hid (by have h9 := HS.out; rw [List.take_of_length_le (by have := G1.out; omega)] at h9; exact h9)
      go_wp2
      go_ret
      exact ⟨-1, rfl, by rw [HAN.out]; simp, HW.out⟩
set_option maxHeartbeats 1600000 in
theorem contFunP {w : World} {v : Value} {ps : List PhiD} {k : FuncId} {cap : Array Value} (eg : Enters Try.prog k) (g : PhiD → Bool) (hv : SliceOf PhiR 4 w v ps)
    (hstep : ∀ (W : World) (p : PhiD) (pv : Value), p ∈ ps → PhiV W pv p → Below w.heap.size w W → Calls Try.prog k (#[pv] ++ cap) W fun e W' => e = .returned (.bool (g p)) ∧ Below W.heap.size W W') :
    Calls Try.prog 68 #[v, .func (.func k) #[] cap] w fun e w' => e = .returned (.bool (ps.any g)) ∧ Below w.heap.size w w' := by
  have HC := Lib.hid (idxFunP eg g hv hstep)
  clear hv hstep
  go_enter Try.func68, Try.ntmps68
  go_wp2_with fail
  refine HC.out.mono ?_
  rintro e w2 ⟨r, rfl, hr, hb⟩
  have HR := Lib.hid hr
  have HB := Lib.hid hb
  clear hr hb
  go_wp2
  go_ret
  exact ⟨ret_bool HR.out, HB.out⟩
structure StrM (f : FuncD) (W : World) (bs bt bg lg lcap bm : Nat) (g : Array Value) (pv ov lv A2 : Value) (O : List Nat) (I : Nat → Option Nat) : Prop where
  s : Box W bs #[.pointer (some ⟨bt, 0, none⟩), A2, .map (some bm)]
  t : TreeM f W bt bg lg lcap g pv ov lv O I
  mp : IMap W bm (defM (entF f))
theorem StrM.later {f : FuncD} {W W' : World} {bs bt bg lg lcap bm : Nat} {g : Array Value} {pv ov lv A2 : Value} {O : List Nat} {I : Nat → Option Nat} (h : StrM f W bs bt bg lg lcap bm g pv ov lv A2 O I) (hb : Below W.heap.size W W') : StrM f W' bs bt bg lg lcap bm g pv ov lv A2 O I :=
  ⟨h.s.later hb, h.t.later hb, h.mp.later hb⟩
theorem StrM.alloc {f : FuncD} {W : World} {bs bt bg lg lcap bm : Nat} {g : Array Value} {pv ov lv A2 : Value} {O : List Nat} {I : Nat → Option Nat} (h : StrM f W bs bt bg lg lcap bm g pv ov lv A2 O I) (o : Obj) : StrM f (W.alloc o) bs bt bg lg lcap bm g pv ov lv A2 O I := h.later ((Below.refl _ _).alloc (Nat.le_refl _) o)
def AheadP (f : FuncD) (d k b at_ : Int) : Prop := (d = b ∧ k < at_) ∨ (d ≠ b ∧ OverP f d.toNat b.toNat)
set_option maxHeartbeats 6400000 in
set_option maxRecDepth 100000 in
theorem ahead {f : FuncD} {w : World} {bs bt bg lg lcap bm : Nat} {g : Array Value} {pv ov lv A2 : Value} {O : List Nat} {I : Nat → Option Nat} (hS : StrM f w bs bt bg lg lcap bm g pv ov lv A2 O I) (hO : IsOrder f O) (hD : DomI f O I) (hc : checkF f = 0)
    {id d k b at_ : Int} (he : ((entF f).find? fun e => e.1 == id) = some (id, d, k)) (hd : 0 ≤ d ∧ d < (f.blocks.length : Int)) (hb : 0 ≤ b ∧ b < (f.blocks.length : Int)) :
    Calls Try.prog 75 #[.pointer (some ⟨bs, 0, none⟩), .int .i64 id, .int .i64 b, .int .i64 at_] w fun e w' => ∃ r : Bool, e = .returned (.bool r) ∧ (r = true ↔ AheadP f d k b at_) ∧ Below w.heap.size w w' := by
  have HI := Lib.hid hS.mp
  have HG : Hid (mget (defM (entF f)) id = some (.agg #[.int .i64 d, .int .i64 k])) := Lib.hid (by rw [def_get hc, he]; rfl)
  obtain ⟨dn, rfl⟩ : ∃ dn : Nat, d = (dn : Int) := ⟨d.toNat, by omega⟩
  obtain ⟨bn, rfl⟩ : ∃ bn : Nat, b = (bn : Int) := ⟨b.toNat, by omega⟩
  have HOV := Lib.hid (fun (W : World) (hW : Below w.heap.size w W) => treeOver (a := dn) (b := bn) (hS.t.later hW) hO hD (formB_nb (check_fine hc).1).2 (by omega) (by omega))
  have HS := Lib.hid hS
  obtain ⟨l1, c1, f1⟩ := hS.s
  clear hS hO hD hc he hd hb
  by_cases hdb : dn = bn
  · have hq : ((dn : Int) == (bn : Int)) = true := by simp [hdb]
    have HDB := Lib.hid hdb
    clear hdb
    go_enter Try.func75, Try.ntmps75
    go_wp2_with (at_lookup; refine wpList_look0 (q := .i64) (z := .agg #[.int .i64 0, .int .i64 0]) (b := bm) (mm := defM (entF f)) (y := id) rfl _ _ _ rfl Try.underlying102 Try.underlying3 (zeroDef _) rfl HI.out rfl ?_; rw [HG.out]; simp only [Option.getD_some])
    have HW := Lib.hid ((Below.refl w.heap.size w).alloc (Nat.le_refl _) (.cells #[.int .i64 dn, .int .i64 k] 130))
    go_ret
    exact ⟨decide (k < at_), rfl, by rw [decide_eq_true_iff]; unfold AheadP; have := HDB.out; constructor; exact fun h => .inl ⟨by omega, h⟩; exact fun h => h.elim (fun h => h.2) (fun h => absurd (by omega) h.1), HW.out⟩
  · have hq : ((dn : Int) == (bn : Int)) = false := by simp; omega
    have HDB := Lib.hid hdb
    clear hdb
    go_enter Try.func75, Try.ntmps75
    go_upto_region 4 with (at_lookup; refine wpList_look0 (q := .i64) (z := .agg #[.int .i64 0, .int .i64 0]) (b := bm) (mm := defM (entF f)) (y := id) rfl _ _ _ rfl Try.underlying102 Try.underlying3 (zeroDef _) rfl HI.out rfl ?_; rw [HG.out]; simp only [Option.getD_some])
    clear l1 c1 f1
    have HW := Lib.hid ((Below.refl w.heap.size w).alloc (Nat.le_refl _) (.cells #[.int .i64 dn, .int .i64 k] 130))
    have BX := Lib.hid (Box.new w #[.int .i64 dn, .int .i64 k] 130)
    obtain ⟨bx, hbx⟩ : ∃ bx, bx = w.heap.size := ⟨_, rfl⟩
    have e9 : (⟨w.heap.size, 0, none⟩ : Addr) = ⟨bx, 0, none⟩ := by rw [hbx]
    rw [← hbx] at BX
    simp only [← hbx]
    generalize w.alloc _ = w1 at *
    clear hbx e9


    obtain ⟨lBX, cBX, fBX⟩ := BX.out
    refine wp_region_grow 9 (fun kz => match kz with | 7 => .holds (fun u w' => ∃ r : Bool, u = .bool r ∧ (r = true ↔ OverP f dn bn)) | _ => .plain) (by kernel_rfl) (by kernel_rfl) ?_ (fun ν => ?_)
    · (intro k; (try dsimp only); split <;> first | exact True.intro | (intro u w1 w2 hu hb; exact hu))
    simp only [List.take_succ_cons, List.take_zero, List.drop_succ_cons, List.drop_zero]
    iterate 7 (refine Grow.val (v := ?_) rfl rfl (fun wg hbg hdg => ?_) ?_; rotate_left; (focus ((obtain ⟨lg0, cg0, fg0⟩ := BX.out.later hbg); (obtain ⟨xl1, xc1, xf1⟩ := (HS.out.later (HW.out.trans (hbg.mono HW.out.size))).s); clear hbg hdg; first | (go_simp; done) | (go_simp; with_reducible rfl))); simp only [Act.put, List.setIfInBounds_toArray, List.set_cons_zero, List.set_cons_succ])
    refine Grow.call (f := ?_) (args := ?_) rfl (fun wg => ?_) (fun wg hbg hdg => ?_) ?_
    rotate_left 2
    focus (first | (go_simp; done) | (go_simp; refine And.intro ?_ ?_ <;> with_reducible rfl) | (go_simp; with_reducible rfl))
    focus exact ((HOV.out wg (HW.out.trans (hbg.mono HW.out.size))).mono (fun e w2 ⟨r, he, hr, hw⟩ => ⟨_, he, ⟨r, rfl, hr⟩, hw ▸ Below.refl _ _⟩))
    simp only [Act.put, Known.val, List.setIfInBounds_toArray, List.set_cons_zero, List.set_cons_succ]
    refine Grow.val (v := ?_) rfl rfl (fun wg hbg hdg => ?_) ?_
    rotate_left
    focus ((obtain ⟨lg0, cg0, fg0⟩ := BX.out.later hbg); (obtain ⟨xl1, xc1, xf1⟩ := (HS.out.later (HW.out.trans (hbg.mono HW.out.size))).s); clear hbg hdg; first | (go_simp; done) | (go_simp; with_reducible rfl))
    simp only [Act.put, List.setIfInBounds_toArray, List.set_cons_zero, List.set_cons_succ]
    intro wg hb hf hap
    clear hap
    clear lBX cBX fBX
    replace BX := Lib.hid (BX.out.later hb)
    replace HW := Lib.hid (HW.out.trans (hb.mono HW.out.size))
    clear hb
    obtain ⟨lBX, cBX, fBX⟩ := BX.out
    simp only [Nat.zero_add, Nat.reduceAdd]
    have hS : ∃ r : Bool, ν 7 = .bool r ∧ (r = true ↔ OverP f dn bn) := hf 7 (by omega)
    obtain ⟨r, hr1, hr2⟩ := hS
    simp only [hr1]
    have HR : Hid (r = true ↔ AheadP f dn k bn at_) := Lib.hid (by
      unfold AheadP
      rw [hr2]
      have := HDB.out
      exact ⟨fun h => .inr ⟨by omega, by simpa using h⟩, fun h => h.elim (fun h => absurd h.1 (by omega)) (fun h => by simpa using h.2)⟩)
    clear hf hr1 hr2
    go_wp2
    go_ret
    exact ⟨r, rfl, HR.out, HW.out⟩
end Go.Proofs.Ytjmikinbdclfbaa
namespace Go.Proofs.Ytjmikinbdclfbaa
set_option linter.unusedSimpArgs false
set_option linter.unusedVariables false
open Go.RowKit
def phiFits (xs : List Int) (p : PhiD) : Bool := decide (p.src.length = xs.length) && xs.all fun t => p.src.contains t
end Go.Proofs.Ytjmikinbdclfbaa
namespace Go.Proofs.Ytjmikinbdclfbaa
set_option linter.unusedSimpArgs false
set_option linter.unusedVariables false
open Go.RowKit
theorem ent_range {f : FuncD} (hn : 1 ≤ f.blocks.length) {e : Int × Int × Int} (he : e ∈ entF f) : 0 ≤ e.2.1 ∧ e.2.1 < (f.blocks.length : Int) := by
  unfold entF at he
  rcases List.mem_append.1 he with he | he
  · unfold parN at he
    rw [List.mem_map] at he
    obtain ⟨j, _, rfl⟩ := he
    exact ⟨by show (0 : Int) ≤ 0; omega, by show (0 : Int) < _; omega⟩
  · unfold blkN at he
    rw [List.mem_flatMap] at he
    obtain ⟨⟨x, c⟩, hx, he⟩ := he
    rw [List.take_length, List.mem_zipIdx_iff_getElem?] at hx
    have hc : c < f.blocks.length := (List.getElem?_eq_some_iff.1 hx).1
    unfold entB at he
    have hd : e.2.1 = (c : Int) := by
      rcases List.mem_append.1 he with he | he
      · unfold phiN at he
        rw [List.mem_map] at he
        obtain ⟨p, _, rfl⟩ := he
        rfl
      · unfold codN at he
        rw [List.mem_filterMap] at he
        obtain ⟨y, _, hy⟩ := he
        split at hy
        · cases hy; rfl
        · cases hy
    rw [hd]
    omega
theorem used_def {f : FuncD} (hc : checkF f = 0) {u : UseD} (hu : u ∈ uxF f) : ∃ d k, ((entF f).find? fun e => e.1 == u.id) = some (u.id, d, k) ∧ 0 ≤ d ∧ d < (f.blocks.length : Int) := by
  obtain ⟨h1, h2⟩ := check_fine hc
  have hev := even_of h1
  have hp : u.pair ∈ usesF f := by rw [← ux_pairs hev]; exact List.mem_map.2 ⟨u, hu, rfl⟩
  have h3 : usesE (valsF f) (usesF f) = 0 := by
    unfold checkF at hc
    rw [if_pos (by rw [h1, h2]; rfl)] at hc
    exact hc
  have h4 : (usesF f).any (fun u => !(tyOf (valsF f) u.1).isSome) = false := by
    unfold usesE at h3
    cases h : (usesF f).any (fun u => !(tyOf (valsF f) u.1).isSome) with
    | false => rfl
    | true => rw [h, if_pos rfl] at h3; omega
  rw [List.any_eq_false] at h4
  have h5 := h4 u.pair hp
  have h6 : u.id ∈ (entF f).map (·.1) := by
    rw [ent_keys hc]
    refine Classical.byContradiction fun h => ?_
    have h7 := tyOf_none.2 h
    have h8 : u.pair.1 = u.id := rfl
    rw [h8, h7] at h5
    exact h5 rfl
  obtain ⟨e, he, hid⟩ := List.mem_map.1 h6
  cases hf : ((entF f).find? fun e => e.1 == u.id) with
  | none =>
    rw [List.find?_eq_none] at hf
    exact absurd (by simp [hid]) (hf e he)
  | some e2 =>
    have h9 := List.find?_some hf
    have h10 := List.mem_of_find?_eq_some hf
    simp only [beq_iff_eq] at h9
    obtain ⟨r1, r2⟩ := ent_range (formB_nb h1).1 h10
    obtain ⟨i, d, k⟩ := e2
    simp only at h9
    subst h9
    exact ⟨d, k, rfl, r1, r2⟩
theorem use_range {f : FuncD} (h : formB f = true) {u : UseD} (hu : u ∈ uxF f) : 0 ≤ u.blk ∧ u.blk < (f.blocks.length : Int) ∧ (u.pos < 0 → 0 ≤ u.src ∧ u.src < (f.blocks.length : Int)) := by
  unfold uxF at hu
  rw [List.mem_flatMap] at hu
  obtain ⟨⟨x, c⟩, hx, hu⟩ := hu
  have hx2 := hx
  rw [List.mem_zipIdx_iff_getElem?] at hx
  have hc : c < f.blocks.length := (List.getElem?_eq_some_iff.1 hx).1
  unfold formB at h
  simp only [Bool.and_eq_true, List.all_eq_true] at h
  have hok := h.2 (x, c) hx2
  unfold blockOk at hok
  simp only [Bool.and_eq_true, List.all_eq_true] at hok
  unfold uxB at hu
  rw [List.append_assoc] at hu
  rcases List.mem_append.1 hu with hu | hu
  · rw [List.mem_flatMap] at hu
    obtain ⟨p, hp, hu⟩ := hu
    have hpk := hok.1.1.2 p hp
    unfold phiOk at hpk
    simp only [Bool.and_eq_true, List.all_eq_true] at hpk
    unfold uxP at hu
    rw [List.mem_map] at hu
    obtain ⟨vs, hvs, rfl⟩ := hu
    have hs := List.of_mem_zip hvs
    have hn := hpk.1.2 vs.2 hs.2
    unfold numB at hn
    simp at hn
    exact ⟨by show (0 : Int) ≤ (c : Int); omega, by show (c : Int) < _; omega, fun _ => hn⟩
  · rcases List.mem_append.1 hu with hu | hu
    · rw [List.mem_flatMap] at hu
      obtain ⟨yk, hy, hu⟩ := hu
      unfold uxI at hu
      rw [List.mem_map] at hu
      obtain ⟨a, ha, rfl⟩ := hu
      exact ⟨by show (0 : Int) ≤ (c : Int); omega, by show (c : Int) < _; omega, fun h => by exfalso; have h : ((yk.2 : Nat) : Int) < 0 := h; omega⟩
    · unfold uxT at hu
      split at hu
      · simp at hu
        subst hu
        exact ⟨by show (0 : Int) ≤ (c : Int); omega, by show (c : Int) < _; omega, fun h => by exfalso; have h : ((x.code.length : Nat) : Int) < 0 := h; omega⟩
      · split at hu
        · simp at hu
          subst hu
          exact ⟨by show (0 : Int) ≤ (c : Int); omega, by show (c : Int) < _; omega, fun h => by exfalso; have h : ((x.code.length : Nat) : Int) < 0 := h; omega⟩
        · simp at hu
def UseOk (f : FuncD) (u : UseD) : Prop := ∃ d k, ((entF f).find? fun e => e.1 == u.id) = some (u.id, d, k) ∧
  ((u.pos < 0 ∧ OverP f d.toNat u.src.toNat) ∨ (¬ u.pos < 0 ∧ AheadP f d k u.blk u.pos))
def FaultR (f : FuncD) (b e : Int) : Prop :=
  (∃ c : Nat, c < f.blocks.length ∧ ¬ Way (toB f) (-1) c ∧ (∀ d, d < c → Way (toB f) (-1) d) ∧ b = c ∧ e = 4) ∨
  ((∀ d, d < f.blocks.length → Way (toB f) (-1) d) ∧
    ((∃ (c : Nat) (x : BlockD), f.blocks[c]? = some x ∧ x.phis.all (phiFits (natI (predN f f.blocks.length 0 c))) = false ∧ (∀ (d : Nat) (y : BlockD), d < c → f.blocks[d]? = some y → y.phis.all (phiFits (natI (predN f f.blocks.length 0 d))) = true) ∧ b = c ∧ e = 5) ∨
     ((∀ (d : Nat) (y : BlockD), f.blocks[d]? = some y → y.phis.all (phiFits (natI (predN f f.blocks.length 0 d))) = true) ∧
      ((∃ (i : Nat) (u : UseD), (uxF f)[i]? = some u ∧ ¬ UseOk f u ∧ (∀ v ∈ (uxF f).take i, UseOk f v) ∧ b = u.blk ∧ e = 6) ∨
       ((∀ v ∈ uxF f, UseOk f v) ∧ b = 0 ∧ e = 0)))))
end Go.Proofs.Ytjmikinbdclfbaa
namespace Go.Proofs.Ytjmikinbdclfbaa
set_option linter.unusedSimpArgs false
set_option linter.unusedVariables false
open Go.RowKit
theorem fault_ok {f : FuncD} : FaultR f 0 0 ↔ (∀ d, d < f.blocks.length → Way (toB f) (-1) d) ∧ (∀ (d : Nat) (y : BlockD), f.blocks[d]? = some y → y.phis.all (phiFits (natI (predN f f.blocks.length 0 d))) = true) ∧ ∀ v ∈ uxF f, UseOk f v := by
  unfold FaultR
  constructor
  · rintro (⟨c, -, -, -, -, h⟩ | ⟨h1, ⟨c, x, -, -, -, -, h⟩ | ⟨h2, ⟨i, u, -, -, -, -, h⟩ | ⟨h3, -, -⟩⟩⟩)
    · cases h
    · cases h
    · cases h
    · exact ⟨h1, h2, h3⟩
  · rintro ⟨h1, h2, h3⟩
    exact .inr ⟨h1, .inr ⟨h2, .inr ⟨h3, rfl, rfl⟩⟩⟩
theorem toB_none {f : FuncD} {i : Nat} (h : f.blocks.length ≤ i) : toB f i = [] := by
  unfold toB
  rw [List.getD_eq_getElem?_getD, List.getElem?_eq_none h]; rfl
theorem to_lt {f : FuncD} (hf : formB f = true) {i v : Nat} (h : v ∈ toB f i) : v < f.blocks.length ∧ 1 ≤ v ∧ i < f.blocks.length := by
  have hi : i < f.blocks.length := Classical.byContradiction fun h2 => by rw [toB_none (by omega)] at h; cases h
  obtain ⟨y, hy⟩ : ∃ y, f.blocks[i]? = some y := ⟨_, List.getElem?_eq_getElem hi⟩
  rw [toB_at hy, List.mem_map] at h
  obtain ⟨q, hq, rfl⟩ := h
  have := formB_to hf hy q hq
  exact ⟨by omega, by omega, hi⟩
section
variable {f : FuncD} {b k t : Nat} {x : BlockD} {still : Bool}
end
end Go.Proofs.Ytjmikinbdclfbaa
namespace Go.Proofs.Ytjmikinbdclfbaa
set_option linter.unusedSimpArgs false
set_option linter.unusedVariables false
open Go.RowKit
theorem pred_mem {f : FuncD} {t p : Nat} (hp : p < f.blocks.length) (h : t ∈ toB f p) : p ∈ predN f f.blocks.length 0 t := by
  rw [predN_zero, List.mem_filter]
  exact ⟨List.mem_range.2 hp, List.contains_iff_mem.2 h⟩
def In (f : FuncD) (src : Int) (a : Nat) : Prop := (src = -1 ∧ a = 0) ∨ ∃ b : Nat, src = b ∧ b < f.blocks.length ∧ a ∈ toB f b
theorem In.phis {f : FuncD} (hc : checkF f = 0) (hF : FaultR f 0 0) {src : Int} {a : Nat} (h : In f src a) {x : BlockD} (hx : f.blocks[a]? = some x) : ∀ p ∈ x.phis, src ∈ p.src := fun p hp => by
  rcases h with ⟨rfl, rfl⟩ | ⟨b, rfl, hb, ha⟩
  · have h1 := (blockOk_parts.1 ((check_zero.1 hc).2.2.1 0 x hx)).1 rfl
    rw [h1] at hp; cases hp
  · have h1 := (fault_ok.1 hF).2.1 a x hx
    rw [List.all_eq_true] at h1
    have h2 := h1 p hp
    unfold phiFits at h2
    simp only [Bool.and_eq_true, List.all_eq_true] at h2
    have h3 := h2.2 (b : Int) (by unfold natI; exact List.mem_map.2 ⟨b, pred_mem hb ha, rfl⟩)
    exact List.contains_iff_mem.1 h3
theorem In.lt {f : FuncD} (hc : checkF f = 0) {src : Int} {a : Nat} (h : In f src a) : a < f.blocks.length := by
  rcases h with ⟨rfl, rfl⟩ | ⟨b, rfl, hb, ha⟩
  · exact (formB_nb (check_fine hc).1).1
  · exact (to_lt (check_fine hc).1 ha).1
theorem oneS_go {fuel : Nat} {x : InstrD} {s : RunS} (h : ¬ s.steps = fuel) : oneS fuel x s = (instrS x { s with steps := s.steps + 1 }).bind fun v s2 => .go () (putS x v s2) := by
  unfold oneS stepS
  rw [if_neg h]; rfl
theorem oneS_over {fuel : Nat} {x : InstrD} {s : RunS} (h : s.steps = fuel) : oneS fuel x s = .over ⟨3, 0, 0⟩ s := by
  unfold oneS stepS
  rw [if_pos h]; rfl
theorem oneS_same {fuel : Nat} {x : InstrD} {s : RunS} : (oneS fuel x s).st.visits = s.visits ∧ s.steps ≤ (oneS fuel x s).st.steps ∧ (oneS fuel x s).st.steps ≤ s.steps + 1 ∧ ((∃ s1, oneS fuel x s = .go () s1) → (oneS fuel x s).st.steps = s.steps + 1) := by
  by_cases h : s.steps = fuel
  · rw [oneS_over h]
    exact ⟨rfl, Nat.le_refl _, by show s.steps ≤ _; omega, fun ⟨_, h⟩ => by cases h⟩
  · rw [oneS_go h]
    have ha := instr_after x { s with steps := s.steps + 1 }
    cases hi : instrS x { s with steps := s.steps + 1 } with
    | over o s2 =>
      rw [hi] at ha
      have h1 : s2.steps = s.steps + 1 := ha.stp
      refine ⟨ha.vis, ?_, ?_, fun _ => h1⟩
      · show s.steps ≤ s2.steps; omega
      · show s2.steps ≤ s.steps + 1; omega
    | go v s2 =>
      rw [hi] at ha
      have h1 : (putS x v s2).visits = s2.visits ∧ (putS x v s2).steps = s2.steps := by unfold putS; split <;> exact ⟨rfl, rfl⟩
      have h2 : s2.steps = s.steps + 1 := ha.stp
      refine ⟨h1.1.trans ha.vis, ?_, ?_, fun _ => h1.2.trans h2⟩
      · show s.steps ≤ (putS x v s2).steps; omega
      · show (putS x v s2).steps ≤ s.steps + 1; omega
theorem codeS_same {fuel : Nat} : ∀ {xs : List InstrD} {s : RunS}, (codeS fuel xs s).st.visits = s.visits ∧ s.steps ≤ (codeS fuel xs s).st.steps ∧ (codeS fuel xs s).st.steps ≤ s.steps + xs.length ∧ ((∃ s1, codeS fuel xs s = .go () s1) → (codeS fuel xs s).st.steps = s.steps + xs.length)
  | [], s => ⟨rfl, Nat.le_refl _, by show s.steps ≤ _; simp, fun _ => rfl⟩
  | x :: xs, s => by
    obtain ⟨h1, h2, h3, h4⟩ := oneS_same (fuel := fuel) (x := x) (s := s)
    unfold codeS
    cases ho : oneS fuel x s with
    | over o s2 =>
      rw [ho] at h1 h2 h3
      refine ⟨h1, h2, ?_, fun ⟨_, h⟩ => by cases h⟩
      show s2.steps ≤ _
      simp only [Res.st] at h3
      rw [List.length_cons]; omega
    | go u s2 =>
      rw [ho] at h1 h2 h3 h4
      obtain ⟨k1, k2, k3, k4⟩ := codeS_same (fuel := fuel) (xs := xs) (s := s2)
      have h5 := h4 ⟨s2, rfl⟩
      simp only [Res.st] at h1 h2 h3 h5
      show (codeS fuel xs s2).st.visits = _ ∧ s.steps ≤ (codeS fuel xs s2).st.steps ∧ (codeS fuel xs s2).st.steps ≤ _ ∧ ((∃ s1, codeS fuel xs s2 = .go () s1) → (codeS fuel xs s2).st.steps = _)
      rw [List.length_cons]
      exact ⟨k1.trans h1, by omega, by omega, fun h => by have := k4 h; omega⟩
structure Gone (f : FuncD) (fuel : Nat) (a : Nat) (x : BlockD) (s s2 : RunS) (to : Int) : Prop where
  good : GoodS f fuel s2
  steps : s2.steps = s.steps + x.code.length + 1
  visits : s2.visits = s.visits.modify a (· + 1)
  to : ∃ t : Nat, to = t ∧ t ∈ toB f a
theorem block_go {f : FuncD} {fuel : Nat} {src to : Int} {a : Nat} {s s2 : RunS} {x : BlockD} (hc : checkF f = 0) (hG : GoodS f fuel s) (hx : f.blocks[a]? = some x) (hs : ∀ p ∈ x.phis, src ∈ p.src) (h : blockR f fuel src a s = .go to s2) : Gone f fuel a x s s2 to := by
  have hxm := List.mem_of_getElem? hx
  have hal := (List.getElem?_eq_some_iff.1 hx).1
  unfold blockR at h
  rw [getD_some hx] at h
  have g1 := (hG.visit a).phis hc hx hs
  have hp : (phisR x src (visitS a s)).steps = s.steps ∧ (phisR x src (visitS a s)).visits = s.visits.modify a (· + 1) := by
    unfold phisR
    rw [putsS_keep]
    exact ⟨rfl, rfl⟩
  cases hcd : codeS fuel x.code (phisR x src (visitS a s)) with
  | over o s3 => rw [hcd] at h; cases h
  | go u s3 =>
    rw [hcd] at h
    obtain ⟨k1, -, -, k4⟩ := codeS_same (fuel := fuel) (xs := x.code) (s := phisR x src (visitS a s))
    rw [hcd] at k1 k4
    have k5 := k4 ⟨s3, rfl⟩
    simp only [Res.st] at k1 k5
    have g3 := g1.code hc hxm (fun y hy => hy) hcd
    change (stepS fuel s3).bind (fun _ s2 => endR x.term s2) = _ at h
    cases hst : stepS fuel s3 with
    | over o s4 => rw [hst] at h; cases h
    | go u s4 =>
      rw [hst] at h
      obtain ⟨e4, g4, -⟩ := g3.step hst
      change endR x.term s4 = _ at h
      have hend : s2 = s4 ∧ ∃ k : Nat, k < x.term.to.length ∧ to = x.term.to.getD k 0 := by
        have hk := (blockOk_parts.1 ((check_zero.1 hc).2.2.1 a x hx)).2.2.2
        unfold endOk at hk
        simp only [Bool.and_eq_true, Bool.or_eq_true, beq_iff_eq] at hk
        unfold endR at h
        split at h
        · cases h
        · split at h
          · cases h
          · split at h
            · rename_i h2
              injection h with h h'
              refine ⟨h'.symm, _, ?_, h.symm⟩
              have hl : x.term.to.length = 2 := by
                rcases hk.2 with ((h8 | h8) | h8) | h8
                · have := h8.1.1.1; omega
                · exact h8.1.2
                · have := h8.1.1; omega
                · have := h8.1.1.1; omega
              have hfl := g4.flag _ (use_type hc (branch_use hxm h2) (by simp))
              simp only at hfl
              rcases hfl with h9 | h9 <;> rw [h9, hl] <;> decide
            · rename_i n3 n4 n2
              injection h with h h'
              refine ⟨h'.symm, 0, ?_, h.symm⟩
              rcases hk.2 with ((h8 | h8) | h8) | h8
              · rw [h8.1.1.2]; omega
              · exact absurd h8.1.1 n2
              · exact absurd h8.1.1 n3
              · exact absurd h8.1.1.1 n4
      obtain ⟨e2, k, hkl, hto⟩ := hend
      subst e2
      refine ⟨g4, ?_, ?_, ?_⟩
      · rw [e4]; show s3.steps + 1 = _; omega
      · rw [e4]; show s3.visits = _; rw [k1, hp.2]
      · have hq : x.term.to[k]? = some to := by rw [hto, List.getD_eq_getElem?_getD, List.getElem?_eq_getElem hkl]; rfl
        have h1 := formB_to (check_fine hc).1 hx to (List.mem_of_getElem? hq)
        refine ⟨to.toNat, by omega, ?_⟩
        rw [toB_at hx, List.mem_map]
        exact ⟨to, List.mem_of_getElem? hq, rfl⟩
end Go.Proofs.Ytjmikinbdclfbaa
namespace Go.Proofs.Ytjmikinbdclfbaa
set_option linter.unusedSimpArgs false
set_option linter.unusedVariables false
open Go.RowKit
theorem MachP.over {base bs fuel : Nat} {W W' : World} {bm : Nat} {s : RunS} {o : OverD} {ov av vv cv : Value} {mv : Nat} {m : List (Int × Value)} {F : Nat → Foot} (h : MachP base bs fuel W bm s ⟨0, 0, 0⟩ ov av vv cv mv m F) (ho : Off (Foot.one bm) W W')
    (hb : Box W' bm #[.int .i64 o.how, .int .i64 o.value, .int .i64 o.trap, ov, av, .int .i64 s.steps, .int .i64 s.checks, vv, .pointer (some ⟨bs, 0, none⟩), .int .i64 fuel, .map (some mv), cv]) : MachP base bs fuel W' bm s o ov av vv cv mv m F := by
  have hne : ∀ j, j ≠ 0 → (F j).off (Foot.one bm) := fun j hj k hk e => h.apart j 0 hj k hk ((h.b0 k).2 e)
  exact ⟨hb, h.b0, h.out.off ho (hne 1 (by omega)), h.arr.off OLis.nice ho (hne 2 (by omega)), h.vis.off ho (hne 3 (by omega)), h.mp.keep (ho.block _ h.mp.lt (hne 4 (by omega) _ ((h.m4 _).2 rfl))), h.m4, h.val, h.cel.off ho (hne 5 (by omega)), h.v64, h.apart, h.six, h.base⟩
def stepsAt (W : World) (bm : Nat) : Nat := match W.cell? ⟨bm, 5, none⟩ with | some (.int _ n) => n.toNat | _ => 0
theorem Mach.stepsAt {base bs fuel : Nat} {W : World} {bm : Nat} {D : Foot} {s : RunS} (h : Mach base bs fuel W bm D s) : stepsAt W bm = s.steps := by
  obtain ⟨_, _, _, _, _, _, _, hP, _⟩ := h
  unfold Go.Proofs.Ytjmikinbdclfbaa.stepsAt
  rw [hP.box.at 5 rfl]
  simp
def WholeR (f : FuncD) (base bs fuel : Nat) (w : World) (bm : Nat) (D : Foot) (s : RunS) (e : Ending) (w' : World) : Prop :=
  ∃ (o : OverD) (s' : RunS) (ov av vv cv : Value) (mv : Nat) (m : List (Int × Value)) (F : Nat → Foot), e = .returned (.tuple #[]) ∧ Runs f fuel (-1) 0 s o s' ∧ MachP base bs fuel w' bm s' o ov av vv cv mv m F ∧ Off D w w' ∧ ∀ i k, F i k → D k ∨ w.heap.size ≤ k
set_option maxHeartbeats 6400000 in
set_option maxRecDepth 100000 in
theorem wholeC {base bs fuel bm : Nat} {w : World} {D : Foot} {s : RunS} {f : FuncD} (hM : Mach base bs fuel w bm D s) (hB : base ≤ w.heap.size) (hE : Env f base w bs) (hc : checkF f = 0) (hF : FaultR f 0 0) (hfu : fuel ≤ 200000) (hG : GoodS f fuel s) (hV : ∀ n ∈ s.visits, n ≤ s.steps + 1) :
    Calls Try.prog 28 #[.pointer (some ⟨bm, 0, none⟩)] w (WholeR f base bs fuel w bm D s) := by
  have hmf : ∀ (fn : Fn) (first cap : Array Value) (w : World), (Instr.makeFunc fn first cap).run Try.prog w = .ok (.func fn first cap) w := fun _ _ _ _ => rfl
  have HM := Lib.hid hM
  have HB := Lib.hid hB
  have HE := Lib.hid hE
  have HC := Lib.hid hc
  have HF := Lib.hid hF
  have HG := Lib.hid hG
  have HV := Lib.hid hV
  have hlt := hM.lt
  have HLT := Lib.hid hlt
  clear hM hB hE hc hF hG hV hlt
  go_enter_defers Try.func28, Try.ntmps28
  go_wp2_with fail
  go_loopw [2, 3] (fun fr at_ wr => ∃ (src : Int) (a : Nat) (s1 : RunS), fr = .int .i64 src ∧ at_ = .int .i64 a ∧ In f src a ∧ (∀ o s', Runs f fuel src a s1 o s' → Runs f fuel (-1) 0 s o s') ∧ GoodS f fuel s1 ∧ (∀ n ∈ s1.visits, n ≤ s1.steps + 1) ∧ ∃ D1, Mach base bs fuel wr bm D1 s1 ∧ Off D w wr ∧ (∀ k, D1 k → D k ∨ w.heap.size ≤ k) ∧ ¬ D1 w.heap.size ∧ Box wr w.heap.size #[.pointer (some ⟨bm, 0, none⟩)]) (fun _ _ W => fuel - stepsAt W bm)
  case atStart => exact ⟨-1, 0, s, rfl, rfl, .inl ⟨rfl, rfl⟩, fun _ _ h => h, HG.out, HV.out, D, HM.out.alloc _, Off.alloc _ _ _, fun k h => .inl h, fun h => by have := HLT.out _ h; omega, Box.new _ _ _⟩
  case round =>
    obtain ⟨src, a, s1, rfl, rfl, hin, hru, hg1, hv1, D1, hm1, ho1, hd1, hb1, hB1⟩ := hrel
    have hal := hin.lt HC.out
    obtain ⟨x, hx⟩ : ∃ x, f.blocks[a]? = some x := ⟨_, List.getElem?_eq_getElem hal⟩
    have HIN := Lib.hid hin
    have HRU := Lib.hid hru
    have HG1 := Lib.hid hg1
    have HV1 := Lib.hid hv1
    have HM1 := Lib.hid hm1
    have HO1 := Lib.hid ho1
    have HD1 := Lib.hid hd1
    have HN1 := Lib.hid hb1
    have B1 := Lib.hid hB1
    have HX := Lib.hid hx
    have HSR := Lib.hid (hin.phis HC.out HF.out hx)
    have HEW : Hid (Env f base wr bs) := Lib.hid (HE.out.later (ho1.below HB.out (fun k _ hk => HM.out.base k hk)))
    have hBw : base ≤ wr.heap.size := Nat.le_trans HB.out ho1.size
    have HVB : Hid (∀ n ∈ s1.visits, n ≤ 1000000) := Lib.hid (fun n hn => by have := hv1 n hn; have := hg1.stp; omega)
    clear hin hru hg1 hv1 hm1 ho1 hd1 hb1 hB1 hx hal
    obtain ⟨l1, c1, f1⟩ := B1.out
    go_wp2_with fail
    clear l1 c1 f1
    refine (blockC HM1.out hBw HEW.out HC.out hfu HG1.out HVB.out HX.out HSR.out).mono ?_
    rintro e w2 h9
    cases hbl : blockR f fuel src a s1 with
    | over o s2 =>
      rw [hbl] at h9
      obtain ⟨rfl, D2, hm2, ho2, hd2⟩ := h9
      have HRUN : Hid (Runs f fuel (-1) 0 s o s2) := Lib.hid (HRU.out o s2 (Runs.over hbl))
      have B2 := Lib.hid (B1.out.off ho2 HN1.out)
      have HO2 : Hid (Off D w w2) := Lib.hid (Off.grow HO1.out ho2 HD1.out)
      have HD2 : Hid (∀ k, D2 k → D k ∨ w.heap.size ≤ k) := Lib.hid (fun k hk => by
        rcases hd2 k hk with h | h
        · exact HD1.out k h
        · exact .inr (Nat.le_trans HO1.out.size h))
      have HN2 : Hid (¬ D2 w.heap.size) := Lib.hid (fun h => (hd2 _ h).elim HN1.out (fun h => by have := B1.out.lt; omega))
      obtain ⟨ov, av, vv, cv, mv, m, F, hP, hDF⟩ := hm2
      have HP := Lib.hid hP
      have HDF := Lib.hid hDF
      clear ho2 hd2 hP hDF hbl
      unfold overE
      go_wp2
      refine leaves_cons (f := 43) (args := #[.pointer (some ⟨w.heap.size, 0, none⟩)]) (by simp) (by simp [go_sem]) ?_
      refine (catchC B2.out HP.out.box (fun e => HN2.out ((HDF.out _).2 ⟨0, (HP.out.b0 _).2 e⟩))).mono ?_
      rintro e u' w3 ⟨rfl, rfl, hbx, hof⟩
      have HBX := Lib.hid hbx
      have HOF := Lib.hid hof
      clear hbx hof
      simp [Leaves, settle, results, Try.results28, go_sem]
      refine ⟨o, s2, ov, av, vv, cv, mv, m, F, rfl, HRUN.out, HP.out.over HOF.out HBX.out, Off.grow HO2.out HOF.out (fun k hk => by cases hk; exact HD2.out _ ((HDF.out _).2 ⟨0, (HP.out.b0 _).2 rfl⟩)), fun i k hk => HD2.out k ((HDF.out k).2 ⟨i, hk⟩)⟩
    | go to s2 =>
      rw [hbl] at h9
      obtain ⟨rfl, D2, hm2, ho2, hd2⟩ := h9
      have hgo := block_go HC.out HG1.out HX.out HSR.out hbl
      obtain ⟨t, rfl, ht⟩ := hgo.to
      have HGO := Lib.hid hgo
      have HT := Lib.hid ht
      have HBL := Lib.hid hbl
      have B2 := Lib.hid (B1.out.off ho2 HN1.out)
      have HO2 : Hid (Off D w w2) := Lib.hid (Off.grow HO1.out ho2 HD1.out)
      have HD2 : Hid (∀ k, D2 k → D k ∨ w.heap.size ≤ k) := Lib.hid (fun k hk => by
        rcases hd2 k hk with h | h
        · exact HD1.out k h
        · exact .inr (Nat.le_trans HO1.out.size h))
      have HN2 : Hid (¬ D2 w.heap.size) := Lib.hid (fun h => (hd2 _ h).elim HN1.out (fun h => by have := B1.out.lt; omega))
      have HM2 := Lib.hid hm2
      have HVN : Hid (∀ n ∈ s2.visits, n ≤ s2.steps + 1) := Lib.hid (fun n hn => by
        rw [hgo.visits] at hn
        obtain ⟨i, hi⟩ := List.getElem?_of_mem hn
        rw [List.getElem?_modify] at hi
        have hs := hgo.steps
        cases hq : s1.visits[i]? with
        | none => rw [hq] at hi; simp at hi
        | some q =>
          rw [hq] at hi
          have := HV1.out q (List.mem_of_getElem? hq)
          simp at hi
          split at hi <;> omega)
      clear ho2 hd2 hm2 hgo ht hbl
      have hal : a < f.blocks.length := HIN.out.lt HC.out
      go_wp2
      go_roundw
      case rel => exact ⟨a, t, s2, rfl, rfl, .inr ⟨a, rfl, hal, HT.out⟩, fun o s' h => HRU.out o s' (Runs.go HBL.out (by simpa using h)), HGO.out.good, HVN.out, D2, HM2.out, HO2.out, HD2.out, HN2.out, B2.out⟩
      case measure =>
        rw [HM2.out.stepsAt, HM1.out.stepsAt]
        have := HGO.out.steps
        have := HGO.out.good.stp
        omega
end Go.Proofs.Ytjmikinbdclfbaa
