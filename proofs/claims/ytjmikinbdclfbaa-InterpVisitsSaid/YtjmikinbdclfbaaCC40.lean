/- What the claim needs, part 40. -/
import Derived.Test.YtjmikinbdclfbaaCC39
import Derived.Test.YtjmikinbdclfbaaCC18
import Derived.Test.YtjmikinbdclfbaaCC24
namespace Go.Proofs.Ytjmikinbdclfbaa
set_option linter.unusedSimpArgs false
set_option linter.unusedVariables false
open Go.RowKit
def Ints2 (W : World) (v : Value) (xs : List Int) : Prop := Ints W v xs
theorem Ints2.later {W W' : World} {v : Value} {xs : List Int} (h : Ints2 W v xs) (hb : Below W.heap.size W W') : Ints2 W' v xs := Ints.below h hb
theorem Ints2.alloc {W : World} {v : Value} {xs : List Int} (h : Ints2 W v xs) (o : Obj) : Ints2 (W.alloc o) v xs := h.later ((Below.refl _ _).alloc (Nat.le_refl _) o)
set_option maxHeartbeats 12800000 in
set_option maxRecDepth 100000 in
theorem walkVisits {w : World} {v u : Value} (f : FuncD) (i : InputD) {a : Int} (hv : FuncV w v f) (hi : InputV w u i) (ha : 0 ≤ a ∧ a ≤ 65535) :
    Calls Try.prog 6 #[v, u, .int .u16 a] w fun e w' => e = .returned (.bool true) ∧ Below w.heap.size w w' := by
  have HV := Lib.hid hv
  have HI := Lib.hid hi
  obtain ⟨ap, cp, ab, cb, rfl, -, -, -, -⟩ := hv.form
  obtain ⟨ua, ub, rfl, hua, hub⟩ := hi
  obtain ⟨aa, ca, rfl⟩ := hua.form
  obtain ⟨_, b5, c5, _, _, rfl, -, -, -, -, -, -⟩ := hub.parts
  obtain ⟨an, rfl⟩ : ∃ an : Nat, a = (an : Int) := ⟨a.toNat, by omega⟩
  obtain ⟨m, hm⟩ : ∃ m, m = an % 2000 := ⟨_, rfl⟩
  have rm : Int.tmod (an : Int) 2000 = (m : Int) := by rw [hm]; rfl
  have hm2 : m < 2000 := by omega
  obtain ⟨nb, hnb⟩ : ∃ nb, nb = f.blocks.length := ⟨_, rfl⟩
  rw [← hnb] at HV ⊢
  have HNB := Lib.hid hnb
  clear hua hub hv hm hnb
  go_enter Try.func6, Try.ntmps6
  go_upto_region 1 with (fail)
  have B3 : Hid (Box ((w.alloc (.cells #[.slice ap f.params.length cp, .int .i64 f.arrays, .int .i64 f.cells, .slice ab nb cb] 31)).alloc (.cells #[.slice aa i.args.length ca, .slice b5 i.arrays.length c5] 34)) (w.heap.size) #[.slice ap f.params.length cp, .int .i64 f.arrays, .int .i64 f.cells, .slice ab nb cb]) := Lib.hid (by simpa using ((Box.new w #[.slice ap f.params.length cp, .int .i64 f.arrays, .int .i64 f.cells, .slice ab nb cb] 31).alloc _))
  have B4 : Hid (Box ((w.alloc (.cells #[.slice ap f.params.length cp, .int .i64 f.arrays, .int .i64 f.cells, .slice ab nb cb] 31)).alloc (.cells #[.slice aa i.args.length ca, .slice b5 i.arrays.length c5] 34)) (w.heap.size + 1) #[.slice aa i.args.length ca, .slice b5 i.arrays.length c5]) := Lib.hid (by simpa using (Box.new (w.alloc (.cells #[.slice ap f.params.length cp, .int .i64 f.arrays, .int .i64 f.cells, .slice ab nb cb] 31)) #[.slice aa i.args.length ca, .slice b5 i.arrays.length c5] 34))
  have HW : Hid (Below w.heap.size w ((w.alloc (.cells #[.slice ap f.params.length cp, .int .i64 f.arrays, .int .i64 f.cells, .slice ab nb cb] 31)).alloc (.cells #[.slice aa i.args.length ca, .slice b5 i.arrays.length c5] 34))) := Lib.hid (((Below.refl _ _).alloc (Nat.le_refl _) _).alloc (by simp) _)
  generalize ((w.alloc (.cells #[.slice ap f.params.length cp, .int .i64 f.arrays, .int .i64 f.cells, .slice ab nb cb] 31)).alloc (.cells #[.slice aa i.args.length ca, .slice b5 i.arrays.length c5] 34)) = wv at *
  obtain ⟨lB3, cB3, fB3⟩ := B3.out
  obtain ⟨lB4, cB4, fB4⟩ := B4.out
  go_wp2_with fail
  refine (runC (fuel := (m : Int)) (HV.out.below HW.out) (HI.out.below HW.out) ⟨by omega, by omega⟩).mono ?_
  rintro e w2 ⟨vt, t, rfl, hp, ht, hb⟩
  obtain ⟨ov, av, vv, rfl, ho, ha2, hv2⟩ := ht
  obtain ⟨b1, c1, rfl⟩ := ho.form
  obtain ⟨b3, c3, rfl⟩ := hv2.form
  obtain ⟨_, b6, c6, _, _, rfl, -, -, -, -, -, -⟩ := ha2.parts
  have HP := Lib.hid hp
  have HVI := Lib.hid hv2
  clear ho ha2 hv2 hp rm
  clear lB3 cB3 fB3 lB4 cB4 fB4
  replace B3 := Lib.hid (B3.out.later hb)
  replace B4 := Lib.hid (B4.out.later hb)
  replace HW := Lib.hid (HW.out.trans (hb.mono HW.out.size))
  clear hb
  obtain ⟨lB3, cB3, fB3⟩ := B3.out
  obtain ⟨lB4, cB4, fB4⟩ := B4.out
  go_upto_region 2 with (fail)
  have HVA : Hid (Ints2 w2 (.slice b3 t.visits.length c3) t.visits) := HVI

  have nB7B3 : w2.heap.size ≠ w.heap.size := fun e => by have := lB3; omega
  have nB3B7 : w.heap.size ≠ w2.heap.size := fun e => nB7B3 e.symm
  have nB7B4 : w2.heap.size ≠ w.heap.size + 1 := fun e => by have := lB4; omega
  have nB4B7 : w.heap.size + 1 ≠ w2.heap.size := fun e => nB7B4 e.symm
  have B3_ : Box (w2.alloc (.cells #[.int .i64 t.how, .int .i64 t.value, .int .i64 t.trap, .slice b1 t.out.length c1, .slice b6 t.arrays.length c6, .int .i64 t.steps, .int .i64 t.checks, .slice b3 t.visits.length c3] 37)) (w.heap.size) #[.slice ap f.params.length cp, .int .i64 f.arrays, .int .i64 f.cells, .slice ab nb cb] := by simpa using (B3.out.alloc _)
  have B4_ : Box (w2.alloc (.cells #[.int .i64 t.how, .int .i64 t.value, .int .i64 t.trap, .slice b1 t.out.length c1, .slice b6 t.arrays.length c6, .int .i64 t.steps, .int .i64 t.checks, .slice b3 t.visits.length c3] 37)) (w.heap.size + 1) #[.slice aa i.args.length ca, .slice b5 i.arrays.length c5] := by simpa using (B4.out.alloc _)
  have B7_ : Box (w2.alloc (.cells #[.int .i64 t.how, .int .i64 t.value, .int .i64 t.trap, .slice b1 t.out.length c1, .slice b6 t.arrays.length c6, .int .i64 t.steps, .int .i64 t.checks, .slice b3 t.visits.length c3] 37)) (w2.heap.size) #[.int .i64 t.how, .int .i64 t.value, .int .i64 t.trap, .slice b1 t.out.length c1, .slice b6 t.arrays.length c6, .int .i64 t.steps, .int .i64 t.checks, .slice b3 t.visits.length c3] := by simpa using (Box.new w2 #[.int .i64 t.how, .int .i64 t.value, .int .i64 t.trap, .slice b1 t.out.length c1, .slice b6 t.arrays.length c6, .int .i64 t.steps, .int .i64 t.checks, .slice b3 t.visits.length c3] 37)
  have HVA_ := (HVA.out.alloc (.cells #[.int .i64 t.how, .int .i64 t.value, .int .i64 t.trap, .slice b1 t.out.length c1, .slice b6 t.arrays.length c6, .int .i64 t.steps, .int .i64 t.checks, .slice b3 t.visits.length c3] 37))
  have HW_ : Below w.heap.size w (w2.alloc (.cells #[.int .i64 t.how, .int .i64 t.value, .int .i64 t.trap, .slice b1 t.out.length c1, .slice b6 t.arrays.length c6, .int .i64 t.steps, .int .i64 t.checks, .slice b3 t.visits.length c3] 37)) := (HW.out.alloc (by first | exact Nat.le_refl _ | exact HW.out.size | (simp only [World.size_alloc, World.size_setCell]; have := HW.out.size; omega)) _)
  clear lB3 cB3 fB3 lB4 cB4 fB4
  clear B3 B4 HVA HW
  generalize (w2.alloc (.cells #[.int .i64 t.how, .int .i64 t.value, .int .i64 t.trap, .slice b1 t.out.length c1, .slice b6 t.arrays.length c6, .int .i64 t.steps, .int .i64 t.checks, .slice b3 t.visits.length c3] 37)) = w5 at *
  have B3 := Lib.hid B3_
  clear B3_
  have B4 := Lib.hid B4_
  clear B4_
  have B7 := Lib.hid B7_
  clear B7_
  have HVA := Lib.hid HVA_
  clear HVA_
  have HW := Lib.hid HW_
  clear HW_
  obtain ⟨lB3, cB3, fB3⟩ := B3.out
  obtain ⟨lB4, cB4, fB4⟩ := B4.out
  obtain ⟨lB7, cB7, fB7⟩ := B7.out
  go_wp2_with fail
  refine (graphPreds (HV.out.below HW.out)).mono ?_
  rintro e w6 ⟨pv, P, rfl, hP, hP1, hP2, hb⟩
  obtain ⟨_, b8, c8, b9, o9, rfl, -, -, -, -, -, -⟩ := hP.parts
  have HPP := Lib.hid hP
  have HP1 := Lib.hid hP1
  have HP2 := Lib.hid hP2
  clear hP hP1 hP2
  clear lB3 cB3 fB3 lB4 cB4 fB4 lB7 cB7 fB7
  replace B3 := Lib.hid (B3.out.later hb)
  replace B4 := Lib.hid (B4.out.later hb)
  replace B7 := Lib.hid (B7.out.later hb)
  replace HVA := Lib.hid (HVA.out.later hb)
  replace HW := Lib.hid (HW.out.trans (hb.mono HW.out.size))
  clear hb
  obtain ⟨lB3, cB3, fB3⟩ := B3.out
  obtain ⟨lB4, cB4, fB4⟩ := B4.out
  obtain ⟨lB7, cB7, fB7⟩ := B7.out
  go_wp2_with fail
  refine awake6.mono ?_
  rintro e w7 ⟨rfl, hb⟩
  have HPQ : Hid (Lists w7 (.slice (some ⟨b9, o9, none⟩) P.length c8) P ∨ True) := Lib.hid (.inr trivial)
  have HPL : Hid (Lists w7 (.slice b8 P.length c8) P) := Lib.hid (HPP.out.below hb)
  clear HPP HPQ
  clear lB3 cB3 fB3 lB4 cB4 fB4 lB7 cB7 fB7
  replace B3 := Lib.hid (B3.out.later hb)
  replace B4 := Lib.hid (B4.out.later hb)
  replace B7 := Lib.hid (B7.out.later hb)
  replace HVA := Lib.hid (HVA.out.later hb)
  replace HW := Lib.hid (HW.out.trans (hb.mono HW.out.size))
  clear hb
  obtain ⟨lB3, cB3, fB3⟩ := B3.out
  obtain ⟨lB4, cB4, fB4⟩ := B4.out
  obtain ⟨lB7, cB7, fB7⟩ := B7.out
  by_cases h6 : t.how = 6
  · have hq : (t.how == 6) = true := by simpa using h6
    go_wp2_with fail
    refine awake6.mono ?_
    rintro e w8 ⟨rfl, hb⟩
    clear lB3 cB3 fB3 lB4 cB4 fB4 lB7 cB7 fB7
    replace B3 := Lib.hid (B3.out.later hb)
    replace B4 := Lib.hid (B4.out.later hb)
    replace B7 := Lib.hid (B7.out.later hb)
    replace HVA := Lib.hid (HVA.out.later hb)
    replace HW := Lib.hid (HW.out.trans (hb.mono HW.out.size))
    clear hb
    obtain ⟨lB3, cB3, fB3⟩ := B3.out
    obtain ⟨lB4, cB4, fB4⟩ := B4.out
    obtain ⟨lB7, cB7, fB7⟩ := B7.out
    go_wp2
    go_ret
    exact ⟨rfl, HW.out⟩
  · have hq : (t.how == 6) = false := by simpa using h6
    obtain ⟨hc, v, hv1, hv2, hv3, hv4, hv5, hv6⟩ := visits_law hm2 HP.out h6
    have hPe := HP1.out hc
    have hpl : (predsF f).length = nb := by unfold predsF; rw [predI_len, HNB.out]
    have hvl : t.visits.length = nb := by rw [hv1, List.length_map, List.length_range, HNB.out]
    have hnb := formB_nb (check_fine hc).1
    rw [← HNB.out] at hnb
    have hgd : ∀ d, d < nb → t.visits.getD d 0 = (v d : Int) := fun d hd => by
      rw [hv1, List.getD_eq_getElem?_getD, List.getElem?_map, List.getElem?_range (by rw [← HNB.out]; exact hd)]; rfl
    obtain ⟨gb, gof, gc, he, hgl, hgx⟩ := ints_at (show Ints w7 (.slice b3 t.visits.length c3) t.visits from HVA.out) (by omega)
    injection he with e1 e2 e3
    subst e1
    subst e3
    have HGX : Hid (∀ d, d < nb → w7.cell? ⟨gb, gof + d, none⟩ = some (.int .i64 (v d))) := Lib.hid (fun d hd => by rw [hgx d (by omega), hgd d hd])
    obtain ⟨vs, b8', c8', pb, po, he8, -, -, -, hpl8, hpx, hpi⟩ := HPL.out.parts
    injection he8 with e1 e2 e3
    subst e1
    subst e3
    rw [hPe] at hpl8 hpx hpi
    obtain ⟨rfl, hpbl⟩ := hpl8 (by omega)
    have HPX : Hid (∀ j, j < nb → w7.cell? ⟨pb, po + j, none⟩ = some (vs.getD j undef) ∧ Ints w7 (vs.getD j undef) (natI (predN f nb 0 j))) := Lib.hid (fun j hj => by
      refine ⟨hpx j (by omega), ?_⟩
      have h9 := hpi j (by omega)
      have h8 : (predsF f).getD j [] = natI (predN f nb 0 j) := by
        unfold predsF
        rw [List.getD_eq_getElem?_getD, predI_at (by rw [← HNB.out]; exact hj), HNB.out]; rfl
      rwa [h8] at h9)
    have HCC := Lib.hid hc
    have HV2 := Lib.hid hv2
    have HV3 := Lib.hid hv3
    have HV4 := Lib.hid hv4
    have HV5 := Lib.hid hv5
    have HV6 := Lib.hid hv6
    have HVL := Lib.hid hvl
    rw [hPe, hpl, hc]
    rw [hvl] at B7 ⊢
    clear hPe hgx hgd hpx hpi hv1 hv2 hv3 hv4 hv5 hv6 hvl hpl HPL HP1 HP2 HVI HVA HP hpl8 h6
    clear lB3 cB3 fB3 lB4 cB4 fB4 lB7 cB7 fB7


    obtain ⟨lB3, cB3, fB3⟩ := B3.out
    obtain ⟨lB4, cB4, fB4⟩ := B4.out
    obtain ⟨lB7, cB7, fB7⟩ := B7.out
    have hn0 : ((nb : Int) != (nb : Int)) = false := by simp
    go_wp2_with fail
    clear lB3 cB3 fB3 lB4 cB4 fB4 lB7 cB7 fB7
    obtain ⟨ap', cp', ab', cb', e0, -, -, -, hB⟩ := HV.out.form
    obtain ⟨ab2, cb2, bb, bo, hbe, -, -, -, hba, hbx⟩ := blocks_parts hB
    have hbe2 : Value.slice ab nb cb = Value.slice ab2 f.blocks.length cb2 := by
      rw [← hbe]
      simp at e0
      simp [e0]
    injection hbe2 with e1 e2 e3
    subst e1
    subst e3
    obtain ⟨rfl, hbbl⟩ := hba (by have := HNB.out; omega)
    have HBX := Lib.hid hbx
    clear e0 hB hbe hba hbx e2 hc hn0
    obtain ⟨G, hG⟩ : ∃ G : Nat → Nat, G = fun k => sumOf (fun d => ((f.blocks.getD d default).code.length + 1) * v d) (List.range k) := ⟨_, rfl⟩
    have HG := Lib.hid hG
    clear hG
    have HW7 := HW
    have B37 := B3
    have B77 := B7
    go_loopw [10, 11] (fun gr bi wr => ∃ k : Nat, k ≤ nb ∧ gr = .int .i64 ((G k : Nat) : Int) ∧ bi = .int .i64 k ∧ Below w7.heap.size w7 wr) (fun _ bi _ => nb - (intOf bi).toNat)
    case atStart => exact ⟨0, Nat.zero_le _, by rw [HG.out]; rfl, rfl, Below.refl _ _⟩
    case round =>
      obtain ⟨k, hk, rfl, rfl, hl⟩ := hrel
      clear HW B3 B7 B4
      have HL := Lib.hid hl
      have HW : Hid (Below w.heap.size w wr) := Lib.hid (HW7.out.trans (hl.mono HW7.out.size))
      have B3 := Lib.hid (B37.out.later hl)
      have B7 := Lib.hid (B77.out.later hl)
      clear hl




      obtain ⟨lB3, cB3, fB3⟩ := B3.out
      obtain ⟨lB7, cB7, fB7⟩ := B7.out
      by_cases hlt : k < nb
      · obtain ⟨x, hx⟩ : ∃ x, f.blocks[k]? = some x := ⟨_, List.getElem?_eq_getElem (by have := HNB.out; omega)⟩
        obtain ⟨api, aii, ati, cpi, cii, cti, hC⟩ := HBX.out k x hx
        have HBC := Lib.hid hC
        have HX := Lib.hid hx
        obtain ⟨hpc, hpi⟩ := HPX.out k hlt
        obtain ⟨L, hLd⟩ : ∃ L, L = predN f nb 0 k := ⟨_, rfl⟩
        rw [← hLd] at hpi
        obtain ⟨ra, rc, hre⟩ := hpi.form
        rw [hre] at hpc hpi
        obtain ⟨lp, hlp⟩ : ∃ lp, lp = L.length := ⟨_, rfl⟩
        have hnl : (natI L).length = lp := by unfold natI; rw [List.length_map, hlp]
        rw [hnl] at hpc hpi
        have HPI := Lib.hid hpi
        have HLL := Lib.hid hlp
        have HLD := Lib.hid hLd
        have HLP : Hid (∀ p ∈ L, p < nb) := Lib.hid (fun p hp => by
          rw [hLd, predN_zero] at hp
          exact List.mem_range.1 (List.mem_filter.1 hp).1)
        have HLN : Hid (lp ≤ 512) := Lib.hid (by
          rw [hlp, hLd, predN_zero]
          exact Nat.le_trans (List.length_filter_le _ _) (by rw [List.length_range]; exact hnb.2))
        have hlp64 := hpi.le
        rw [hnl] at hlp64
        have HPC := Lib.hid hpc
        have hpk := (HL.out.cell (p := ⟨pb, po + k, none⟩) hpbl).trans hpc
        clear hC hx hpc hpi hLd hre hlp hnl
        go_wp2_with fail
        clear lB3 cB3 fB3 lB7 cB7 fB7
        obtain ⟨W1, rfl⟩ : ∃ W1, W1 = wr := ⟨_, rfl⟩
        clear hpk
        go_loopw [12, 13] (fun co ki wr => ∃ j : Nat, j ≤ lp ∧ co = .int .i64 ((sumOf v (L.take j) : Nat) : Int) ∧ ki = .int .i64 j ∧ Below w7.heap.size w7 wr) (fun _ ki _ => lp - (intOf ki).toNat)
        case atStart => exact ⟨0, Nat.zero_le _, by rw [List.take_zero]; rfl, rfl, HL.out⟩
        case round =>
          obtain ⟨j, hj, rfl, rfl, hl⟩ := hrel
          clear HW B3 B7 HL
          have HL := Lib.hid hl
          have HW : Hid (Below w.heap.size w wr) := Lib.hid (HW7.out.trans (hl.mono HW7.out.size))
          have B3 := Lib.hid (B37.out.later hl)
          have B7 := Lib.hid (B77.out.later hl)
          have hpk := (hl.cell (p := ⟨pb, po + k, none⟩) hpbl).trans HPC.out
          clear hl


          obtain ⟨lB3, cB3, fB3⟩ := B3.out
          obtain ⟨lB7, cB7, fB7⟩ := B7.out
          by_cases hjt : j < lp
          · obtain ⟨p, hp⟩ : ∃ p, L[j]? = some p := ⟨_, List.getElem?_eq_getElem (by rw [← HLL.out]; exact hjt)⟩
            have hpn := HLP.out p (List.mem_of_getElem? hp)
            have hnl : (natI L).length = lp := by unfold natI; rw [List.length_map, HLL.out]
            obtain ⟨rb, ro, rcc, hre, hrbl, hrx⟩ := ints_at HPI.out (by rw [hnl]; omega)
            injection hre with e1 e2 e3
            subst e1
            subst e3
            have hrj := (HL.out.cell (p := ⟨rb, ro + j, none⟩) hrbl).trans (hrx j (by rw [hnl]; exact hjt))
            have hgp : (natI L).getD j 0 = (p : Int) := by unfold natI; rw [List.getD_eq_getElem?_getD, List.getElem?_map, hp]; rfl
            rw [hgp] at hrj
            have hvp := (HL.out.cell (p := ⟨gb, gof + p, none⟩) hgl).trans (HGX.out p hpn)
            have hS : sumOf v (L.take (j + 1)) = sumOf v (L.take j) + v p := by
              unfold sumOf
              rw [List.take_add_one, hp]
              simp
            have hbd : sumOf v (L.take j) ≤ 2000 * j := by
              clear hS hvp hgp hrj hp
              have key : ∀ xs : List Nat, sumOf v xs ≤ 2000 * xs.length := fun xs => by
                induction xs with
                | nil => exact Nat.le_refl _
                | cons q xs ih =>
                  have := HV6.out q
                  unfold sumOf at ih ⊢
                  simp only [List.map_cons, List.sum_cons, List.length_cons]
                  omega
              exact Nat.le_trans (key _) (Nat.mul_le_mul_left _ (by rw [List.length_take]; omega))
            have hvb := HV6.out p
            have hsm : IntKind.i64.wrap (((sumOf v (L.take j) : Nat) : Int) + (v p : Int)) = ((sumOf v (L.take (j + 1)) : Nat) : Int) := by
              have := HLN.out
              rw [hS, i64_add (by unfold In64; omega)]
              omega
            have HSM := Lib.hid hS
            clear hS hbd hvb hgp hrx hp e2 hnl
            go_upto_region 13 with (fail)
            go_quiet (fail)
            clear hpk hrj hvp hsm
            clear lB3 cB3 fB3 lB7 cB7 fB7
            go_wp2
            go_roundw
            case rel => exact ⟨j + 1, hjt, rfl, by go_num, below_drewN HL.out nq⟩
            case measure => simp [intOf]; omega
          · obtain rfl : lp = j := by omega
            have hall : L.take lp = L := List.take_of_length_le (by rw [HLL.out]; exact Nat.le_refl _)
            rw [hall]
            obtain ⟨co, hco⟩ : ∃ co, co = sumOf v L := ⟨_, rfl⟩
            rw [← hco]
            have hvk := (HL.out.cell (p := ⟨gb, gof + k, none⟩) hgl).trans (HGX.out k hlt)
            obtain ⟨z0, z1, z2, z3, z4, z5, -, -, -, -, -, -⟩ := HBC.out.below HW.out hbbl
            have hlc := ((block_sizes HCC.out).1 x (List.mem_of_getElem? HX.out)).2
            obtain ⟨lc, hlcd⟩ : ∃ lc, lc = x.code.length := ⟨_, rfl⟩
            obtain ⟨lt, hltd⟩ : ∃ lt, lt = x.term.to.length := ⟨_, rfl⟩
            obtain ⟨y, hy⟩ : ∃ y, y = v k := ⟨_, rfl⟩
            have hG1 : G (k + 1) = G k + (lc + 1) * y := by
              rw [HG.out]
              show sumOf _ (List.range (k + 1)) = _
              unfold sumOf
              rw [List.range_succ, List.map_append, List.sum_append]
              have h9 : f.blocks.getD k default = x := getD_some HX.out
              simp only [List.map_cons, List.map_nil, List.sum_cons, List.sum_nil, Nat.add_zero]
              rw [h9, hlcd, hy]
            have hyb : y ≤ 2000 := by rw [hy]; exact HV6.out k
            have hm1 : (lc + 1) * y ≤ 100001 * 2000 := Nat.mul_le_mul (by omega) hyb
            have hGb : G k ≤ k * (100001 * 2000) := by
              have key : ∀ n, n ≤ nb → G n ≤ n * (100001 * 2000) := fun n => by
                induction n with
                | zero => intro _; rw [HG.out]; exact Nat.zero_le _
                | succ n ih =>
                  intro hn
                  have h1 := ih (by omega)
                  obtain ⟨x2, hx2⟩ : ∃ x2, f.blocks[n]? = some x2 := ⟨_, List.getElem?_eq_getElem (by have := HNB.out; omega)⟩
                  have h2 := ((block_sizes HCC.out).1 x2 (List.mem_of_getElem? hx2)).2
                  have h3 : G (n + 1) = G n + (x2.code.length + 1) * v n := by
                    rw [HG.out]
                    show sumOf _ (List.range (n + 1)) = _
                    unfold sumOf
                    rw [List.range_succ, List.map_append, List.sum_append]
                    have h9 : f.blocks.getD n default = x2 := getD_some hx2
                    simp only [List.map_cons, List.map_nil, List.sum_cons, List.sum_nil, Nat.add_zero]
                    rw [h9]
                  have h4 : (x2.code.length + 1) * v n ≤ 100001 * 2000 := Nat.mul_le_mul (by omega) (HV6.out n)
                  omega
              exact key k (by omega)
            rw [← hlcd] at z1
            rw [← hltd] at z4
            rw [← hy] at hvk
            have w1 : IntKind.i64.wrap ((lc : Int) + 1) = ((lc + 1 : Nat) : Int) := by rw [i64_add (by unfold In64; omega)]; omega
            have w2e : ((lc + 1 : Nat) : Int) * (y : Int) = (((lc + 1) * y : Nat) : Int) := by rw [Int.natCast_mul]
            have w2 : IntKind.i64.wrap (((lc + 1 : Nat) : Int) * (y : Int)) = (((lc + 1) * y : Nat) : Int) := by
              rw [w2e, i64_wrap]; exact wrap_in (by unfold In64; omega)
            have w3 : IntKind.i64.wrap (((G k : Nat) : Int) + (((lc + 1) * y : Nat) : Int)) = ((G (k + 1) : Nat) : Int) := by
              rw [hG1, i64_add (by unfold In64; omega)]; omega
            have hlast : lt = 0 → y ≤ 1 := fun h => by
              rw [hy]
              refine HV4.out k ?_
              rw [toB_at HX.out]
              have h8 : x.term.to = [] := List.eq_nil_of_length_eq_zero (by rw [← hltd]; exact h)
              rw [h8]; rfl
            have hcome : 0 < k → y ≤ co := fun h => by
              have h9 := HV3.out k h
              rw [← HNB.out, ← HLD.out] at h9
              rw [hy, hco]; exact h9
            have hone : k = 0 → y = 1 := fun h => by rw [hy, h]; exact HV2.out
            have HS := Lib.hid (show (lt = 0 → y ≤ 1) ∧ (0 < k → y ≤ co) ∧ (k = 0 → y = 1) from ⟨hlast, hcome, hone⟩)
            obtain ⟨lc1, hlc1⟩ : ∃ lc1, lc1 = lc + 1 := ⟨_, rfl⟩
            obtain ⟨pr, hpr⟩ : ∃ pr, pr = (lc + 1) * y := ⟨_, rfl⟩
            rw [← hpr] at w2 w3
            rw [← hlc1] at w1 w2
            have hlast2 : lt = 0 → ¬ 1 < y := fun h => by have := hlast h; omega
            have hgo : ((k : Int) == 0) = true ∧ ((y : Int) != 1) = false ∧ (¬ 0 < k) ∨ ((k : Int) == 0) = false ∧ (0 < k) ∧ ¬ co < y := by
              by_cases e : k = 0
              · have h9 := hone e
                exact .inl ⟨by simp [e], by simp [h9], by omega⟩
              · have h9 := hcome (by omega)
                exact .inr ⟨by simp; omega, by omega, by omega⟩
            have HGO := Lib.hid hgo
            have HLA := Lib.hid hlast2
            clear hlast hcome hone hG1 hm1 hGb w2e hlcd hltd hy hco hall hlc z0 z2 z3 z5 hlc1 hpr hgo hlast2 hyb HS
            rcases HGO.out with ⟨q0, q1, q2⟩ | ⟨q0, q1, q2⟩
            · go_upto_region 16 with (fail)
              clear q0 q1 q2
              go_quiet (fail)
              clear w1 w2 w3
              clear lB3 cB3 fB3 lB7 cB7 fB7
              have hlw := below_drewN HL.out nq
              have HLW := Lib.hid hlw
              have B3 := Lib.hid (B37.out.later hlw)
              have B7 := Lib.hid (B77.out.later hlw)
              have HWQ : Hid (Below w.heap.size w (wr.drewN nq)) := Lib.hid (HW7.out.trans (hlw.mono HW7.out.size))
              clear HW
              have HW := HWQ
              clear HWQ
              have z4q := (((below_drewN (Below.refl wr.heap.size wr) nq).cell (p := ⟨bb, bo + k * 6 + 4, none⟩) (by show bb < _; have := HW7.out.size; have := HL.out.size; omega))).trans z4
              have hvkq := (((below_drewN (Below.refl wr.heap.size wr) nq).cell (p := ⟨gb, gof + k, none⟩) (by show gb < _; have := HL.out.size; omega))).trans hvk
              clear hlw z4 z1 hvk hpk
              generalize wr.drewN nq = wq at *


              obtain ⟨lB3, cB3, fB3⟩ := B3.out
              obtain ⟨lB7, cB7, fB7⟩ := B7.out
              skip
              cases q5 : ((lt : Int) == 0)
              · go_wp2
                go_roundw
                case rel => exact ⟨k + 1, hlt, rfl, by go_num, HLW.out⟩
                case measure => simp [intOf]; omega
              · have q6 := HLA.out (by simpa using q5)
                go_wp2
                go_roundw
                case rel => exact ⟨k + 1, hlt, rfl, by go_num, HLW.out⟩
                case measure => simp [intOf]; omega
            · go_upto_region 16 with (fail)
              clear q0 q1 q2
              go_quiet (fail)
              clear w1 w2 w3
              clear lB3 cB3 fB3 lB7 cB7 fB7
              have hlw := below_drewN HL.out nq
              have HLW := Lib.hid hlw
              have B3 := Lib.hid (B37.out.later hlw)
              have B7 := Lib.hid (B77.out.later hlw)
              have HWQ : Hid (Below w.heap.size w (wr.drewN nq)) := Lib.hid (HW7.out.trans (hlw.mono HW7.out.size))
              clear HW
              have HW := HWQ
              clear HWQ
              have z4q := (((below_drewN (Below.refl wr.heap.size wr) nq).cell (p := ⟨bb, bo + k * 6 + 4, none⟩) (by show bb < _; have := HW7.out.size; have := HL.out.size; omega))).trans z4
              have hvkq := (((below_drewN (Below.refl wr.heap.size wr) nq).cell (p := ⟨gb, gof + k, none⟩) (by show gb < _; have := HL.out.size; omega))).trans hvk
              clear hlw z4 z1 hvk hpk
              generalize wr.drewN nq = wq at *


              obtain ⟨lB3, cB3, fB3⟩ := B3.out
              obtain ⟨lB7, cB7, fB7⟩ := B7.out
              skip
              cases q5 : ((lt : Int) == 0)
              · go_wp2
                go_roundw
                case rel => exact ⟨k + 1, hlt, rfl, by go_num, HLW.out⟩
                case measure => simp [intOf]; omega
              · have q6 := HLA.out (by simpa using q5)
                go_wp2
                go_roundw
                case rel => exact ⟨k + 1, hlt, rfl, by go_num, HLW.out⟩
                case measure => simp [intOf]; omega
      · obtain rfl : nb = k := by omega
        have hs : decide (t.steps ≤ ((G nb : Nat) : Int)) = true := by
          have h9 := HV5.out
          have h8 : mostS f v = G nb := by rw [HG.out, HNB.out]; rfl
          rw [h8] at h9
          simpa using h9
        go_wp2
        go_ret
        exact ⟨rfl, HW.out⟩
end Go.Proofs.Ytjmikinbdclfbaa
