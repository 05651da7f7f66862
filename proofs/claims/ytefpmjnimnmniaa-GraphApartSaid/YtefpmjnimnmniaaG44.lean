/- What the claim needs, part 44. -/
import Derived.Test.YtefpmjnimnmniaaG40
import Derived.Test.YtefpmjnimnmniaaG25
namespace Go.Proofs.Ytefpmjnimnmniaa
set_option linter.unusedSimpArgs false
set_option linter.unusedVariables false
open Go.RowKit
theorem splitF_zero {f : FuncD} {b k : Int} (h : (splitF f b k).2 = 0) : checkF f = 0 ∧ ∃ (bn kn : Nat) (x : BlockD) (t : Nat), b = bn ∧ k = kn ∧ f.blocks[bn]? = some x ∧ x.term.to[kn]? = some (t : Int) ∧ t < f.blocks.length ∧ f.blocks.length < 512 ∧ sizeF f < 4096 ∧
    (splitF f b k).1 = splitAt f bn kn t ((x.term.to.set kn (f.blocks.length : Int)).contains (t : Int)) := by
  by_cases hc : checkF f = 0
  · have hf := (check_fine hc).1
    have hz := (even_of hf).size
    have hl := (even_of hf).len
    by_cases h1 : 0 ≤ b ∧ b < f.blocks.length ∧ 0 ≤ k ∧ k < (f.blocks.getD b.toNat default).term.to.length
    · obtain ⟨bn, rfl⟩ : ∃ bn : Nat, b = bn := ⟨b.toNat, by omega⟩
      obtain ⟨kn, rfl⟩ : ∃ kn : Nat, k = kn := ⟨k.toNat, by omega⟩
      obtain ⟨x, hx⟩ : ∃ x, f.blocks[bn]? = some x := ⟨_, List.getElem?_eq_getElem (by omega)⟩
      have hk : kn < x.term.to.length := by
        have h2 := h1.2.2.2
        rw [Int.toNat_natCast, getD_some hx] at h2
        omega
      obtain ⟨q, hq⟩ : ∃ q, x.term.to[kn]? = some q := ⟨_, List.getElem?_eq_getElem hk⟩
      have hto := formB_to hf hx q (List.mem_of_getElem? hq)
      obtain ⟨t, rfl⟩ : ∃ t : Nat, q = t := ⟨q.toNat, by omega⟩
      by_cases h2 : f.blocks.length = 512 ∨ sizeF f = 4096
      · rw [splitF_full hc hx hk h2] at h; cases h
      · refine ⟨hc, bn, kn, x, t, rfl, rfl, hx, hq, by omega, by omega, by omega, ?_⟩
        rw [splitF_ok hc hx hq (fun e => h2 (.inl e)) (fun e => h2 (.inr e))]
    · exfalso
      unfold splitF at h
      rw [if_neg (by simp [hc]), if_pos h1] at h
      cases h
  · exfalso
    rw [splitF_bad hc] at h
    exact hc h
theorem apart {f fa fh : FuncD} {m : Nat} (h1 : splitF f m 0 = (fa, 0)) (h2 : splitF fa m 1 = (fh, 0)) : checkF fh = 0 ∧ ∃ (x x2 : BlockD) (t0 t1 : Nat), f.blocks[m]? = some x ∧ x.term.to = [(t0 : Int), (t1 : Int)] ∧ fh.blocks.length = f.blocks.length + 2 ∧
    fh.blocks[m]? = some x2 ∧ x2.term.to = [(f.blocks.length : Int), ((f.blocks.length + 1 : Nat) : Int)] ∧ fh.blocks[f.blocks.length]? = some (jumpB t0) ∧ fh.blocks[f.blocks.length + 1]? = some (jumpB t1) := by
  obtain ⟨hc, bn, kn, x, t0, e1, e2, hx, hk, ht, hl, hs, hfa⟩ := splitF_zero (by rw [h1])
  obtain rfl : m = bn := by omega
  obtain rfl : kn = 0 := by omega
  rw [h1] at hfa
  simp only at hfa
  obtain ⟨hca, bn, kn, x1, t1, e1, e2, hx1, hk1, ht1, hl1, hs1, hfh⟩ := splitF_zero (by rw [h2])
  obtain rfl : m = bn := by omega
  obtain rfl : kn = 1 := by omega
  rw [h2] at hfh
  simp only at hfh
  have hml := (List.getElem?_eq_some_iff.1 hx).1
  have hch : checkF fh = 0 := by
    rw [hfh]; exact check_split hca hx1 hk1 hl1 hs1 _
  have hx1' : x1.term.to = x.term.to.set 0 (f.blocks.length : Int) := by
    rw [hfa, split_get, if_pos hml, hx, Option.map_some, if_pos rfl] at hx1
    split at hx1 <;> (cases hx1; rfl)
  have hok := (blockOk_parts.1 (by
    have h9 := (check_fine hc).1
    unfold formB at h9
    simp only [Bool.and_eq_true, List.all_eq_true] at h9
    exact h9.2 (x, m) (by rw [List.mem_zipIdx_iff_getElem?]; exact hx))).2.2.2
  have hlen2 : x.term.to.length ≤ 2 := by
    unfold endOk at hok
    simp only [Bool.and_eq_true] at hok
    have h9 := hok.2
    simp only [Bool.or_eq_true, Bool.and_eq_true, beq_iff_eq] at h9
    omega
  have hlen1 : 1 < x.term.to.length := by
    have := (List.getElem?_eq_some_iff.1 hk1).1
    rw [hx1', List.length_set] at this; exact this
  have hto : x.term.to = [(t0 : Int), (t1 : Int)] := by
    have hk1' : x.term.to[1]? = some (t1 : Int) := by
      rw [hx1', List.getElem?_set, if_neg (by omega)] at hk1; exact hk1
    match hq : x.term.to with
    | [a, b] =>
      rw [hq] at hk hk1'
      simp at hk hk1'
      rw [hk, hk1']
    | [] => rw [hq] at hlen1; simp at hlen1
    | [a] => rw [hq] at hlen1; simp at hlen1
    | a :: b :: c :: l => rw [hq] at hlen2; simp at hlen2
  have ht1n : t1 < f.blocks.length := by
    have := formB_to (check_fine hc).1 hx (t1 : Int) (by rw [hto]; simp)
    omega
  have hfal : fa.blocks.length = f.blocks.length + 1 := by rw [hfa, split_len]
  refine ⟨hch, x, _, t0, t1, hx, hto, ?_, by rw [hfh, split_get, hfal, if_pos (by omega), hx1, Option.map_some], ?_, ?_, ?_⟩
  · rw [hfh, split_len, hfal]
  · rw [if_pos rfl]
    have e9 : (splitTo 1 (f.blocks.length + 1) x1).term.to = [(f.blocks.length : Int), ((f.blocks.length + 1 : Nat) : Int)] := by
      unfold splitTo
      simp only [hx1', hto]
      simp
    split
    · exact e9
    · exact e9
  · rw [hfh, split_get, hfal, if_pos (by omega)]
    have e9 : fa.blocks[f.blocks.length]? = some (jumpB t0) := by rw [hfa, split_get, if_neg (by omega), if_pos rfl]
    rw [e9, Option.map_some, if_neg (by omega), if_neg (by omega)]
  · rw [hfh, split_get, hfal, if_neg (by omega), if_pos rfl]
end Go.Proofs.Ytefpmjnimnmniaa
namespace Go.Proofs.Ytefpmjnimnmniaa
set_option linter.unusedSimpArgs false
set_option linter.unusedVariables false
open Go.RowKit
def HoldsT (w : World) (bt ot t0 t1 : Nat) : Prop := bt < w.heap.size ∧ w.cell? ⟨bt, ot, none⟩ = some (.int .i64 (t0 : Int)) ∧ w.cell? ⟨bt, ot + 1, none⟩ = some (.int .i64 (t1 : Int))
theorem Since.alloc {w0 W : World} (h : Since w0 W) (o : Obj) : Since w0 (W.alloc o) := h.later ((Below.refl _ _).alloc (Nat.le_refl _) o)
set_option maxHeartbeats 12800000 in
set_option maxRecDepth 100000 in
theorem walkApart {w : World} {v : Value} (f : FuncD) {a : Int} (hv : FuncV w v f) (ha : 0 ≤ a ∧ a ≤ 65535) :
    Calls Try.prog 9 #[v, .int .u16 a] w fun e w' => e = .returned (.bool true) ∧ Below w.heap.size w w' := by
  have HV := Lib.hid hv
  obtain ⟨ap, cp, ab, cb, rfl, -, -, -, hB⟩ := hv.form
  obtain ⟨a2, c2, bb, bo, hbe, hbc, hbm, hbl, hba, hbx⟩ := blocks_parts hB
  cases hbe
  obtain ⟨an, rfl⟩ : ∃ an : Nat, a = (an : Int) := ⟨a.toNat, by omega⟩
  obtain ⟨nb, hnb⟩ : ∃ nb, nb = f.blocks.length := ⟨_, rfl⟩
  rw [← hnb] at HV hbc hba hbl ⊢
  have HNB := Lib.hid hnb
  have HBA := Lib.hid hba
  have HBX := Lib.hid hbx
  clear hv hnb hba hbx hB
  go_enter Try.func9, Try.ntmps9
  go_upto_region 1 with (fail)
  have B1 : Hid (Box (w.alloc (.cells #[.slice ap f.params.length cp, .int .i64 f.arrays, .int .i64 f.cells, .slice ab nb cb] 30)) (w.heap.size) #[.slice ap f.params.length cp, .int .i64 f.arrays, .int .i64 f.cells, .slice ab nb cb]) := Lib.hid (by simpa using (Box.new w #[.slice ap f.params.length cp, .int .i64 f.arrays, .int .i64 f.cells, .slice ab nb cb] 30))
  have HW : Hid (Below w.heap.size w (w.alloc (.cells #[.slice ap f.params.length cp, .int .i64 f.arrays, .int .i64 f.cells, .slice ab nb cb] 30))) := Lib.hid ((Below.refl _ _).alloc (Nat.le_refl _) _)
  generalize (w.alloc (.cells #[.slice ap f.params.length cp, .int .i64 f.arrays, .int .i64 f.cells, .slice ab nb cb] 30)) = wv at *
  obtain ⟨lB1, cB1, fB1⟩ := B1.out
  go_wp2_with fail
  refine awake3.mono ?_
  rintro e w2 ⟨rfl, hb⟩
  clear lB1 cB1 fB1
  replace B1 := Lib.hid (B1.out.later hb)
  replace HW := Lib.hid (HW.out.trans (hb.mono HW.out.size))
  clear hb
  obtain ⟨lB1, cB1, fB1⟩ := B1.out
  cases hq : ((nb : Int) == 0)
  rotate_left
  · skip
    go_wp2_with fail
    refine awake3.mono ?_
    rintro e w3 ⟨rfl, hb⟩
    clear lB1 cB1 fB1
    replace B1 := Lib.hid (B1.out.later hb)
    replace HW := Lib.hid (HW.out.trans (hb.mono HW.out.size))
    clear hb
    obtain ⟨lB1, cB1, fB1⟩ := B1.out
    go_wp2
    go_ret
    exact ⟨rfl, HW.out⟩
  by_cases h200 : (200 : Int) < (nb : Int)
  · skip
    go_wp2_with fail
    refine awake3.mono ?_
    rintro e w3 ⟨rfl, hb⟩
    clear lB1 cB1 fB1
    replace B1 := Lib.hid (B1.out.later hb)
    replace HW := Lib.hid (HW.out.trans (hb.mono HW.out.size))
    clear hb
    obtain ⟨lB1, cB1, fB1⟩ := B1.out
    go_wp2
    go_ret
    exact ⟨rfl, HW.out⟩
  have hn0 : 0 < nb := by simp at hq; omega
  have hn2 : nb ≤ 200 := by omega
  obtain ⟨rfl, hbw⟩ := HBA.out hn0

  obtain ⟨m, hm⟩ : ∃ m, m = an % nb := ⟨_, rfl⟩
  have hml : m < nb := by rw [hm]; exact Nat.mod_lt _ hn0
  have rm : Int.tmod (an : Int) (nb : Int) = (m : Int) := by rw [hm]; rfl
  clear hm
  go_wp2_with fail
  clear rm hq h200
  refine (graphSplit (b := (m : Int)) (k := 0) (HV.out.below HW.out) ⟨by omega, by omega⟩ ⟨by decide, by decide⟩).mono ?_
  rintro e w4 ⟨va, S, rfl, hO, -, hb⟩
  obtain ⟨⟨fa, ea⟩, hfa⟩ : ∃ fa, fa = splitF f (m : Int) 0 := ⟨_, rfl⟩
  rw [← hfa] at hO ⊢
  simp only at hO ⊢
  have HFA := Lib.hid hfa
  have HA := Lib.hid hO.reads
  obtain ⟨ap2, cp2, ab2, cb2, rfl, -, -, -, -⟩ := hO.reads.form
  clear hO hfa
  clear lB1 cB1 fB1
  replace B1 := Lib.hid (B1.out.later hb)
  replace HW := Lib.hid (HW.out.trans (hb.mono HW.out.size))
  clear hb
  obtain ⟨lB1, cB1, fB1⟩ := B1.out

  go_upto_region 5 with (fail)
  have nB2B1 : w4.heap.size ≠ w.heap.size := fun e => by have := lB1; omega
  have nB1B2 : w.heap.size ≠ w4.heap.size := fun e => nB2B1 e.symm
  have B1_ : Box (w4.alloc (.cells #[.slice ap2 fa.params.length cp2, .int .i64 fa.arrays, .int .i64 fa.cells, .slice ab2 fa.blocks.length cb2] 30)) (w.heap.size) #[.slice ap f.params.length cp, .int .i64 f.arrays, .int .i64 f.cells, .slice (some ⟨bb, bo, none⟩) nb cb] := by simpa using (B1.out.alloc _)
  have B2_ : Box (w4.alloc (.cells #[.slice ap2 fa.params.length cp2, .int .i64 fa.arrays, .int .i64 fa.cells, .slice ab2 fa.blocks.length cb2] 30)) (w4.heap.size) #[.slice ap2 fa.params.length cp2, .int .i64 fa.arrays, .int .i64 fa.cells, .slice ab2 fa.blocks.length cb2] := by simpa using (Box.new w4 #[.slice ap2 fa.params.length cp2, .int .i64 fa.arrays, .int .i64 fa.cells, .slice ab2 fa.blocks.length cb2] 30)
  have HA_ := (HA.out.alloc (.cells #[.slice ap2 fa.params.length cp2, .int .i64 fa.arrays, .int .i64 fa.cells, .slice ab2 fa.blocks.length cb2] 30))
  have HW_ : Below w.heap.size w (w4.alloc (.cells #[.slice ap2 fa.params.length cp2, .int .i64 fa.arrays, .int .i64 fa.cells, .slice ab2 fa.blocks.length cb2] 30)) := (HW.out.alloc (by first | exact Nat.le_refl _ | exact HW.out.size | (simp only [World.size_alloc, World.size_setCell]; have := HW.out.size; omega)) _)
  clear lB1 cB1 fB1
  clear B1 HA HW
  generalize (w4.alloc (.cells #[.slice ap2 fa.params.length cp2, .int .i64 fa.arrays, .int .i64 fa.cells, .slice ab2 fa.blocks.length cb2] 30)) = w5 at *
  have B1 := Lib.hid B1_
  clear B1_
  have B2 := Lib.hid B2_
  clear B2_
  have HA := Lib.hid HA_
  clear HA_
  have HW := Lib.hid HW_
  clear HW_
  obtain ⟨lB1, cB1, fB1⟩ := B1.out
  obtain ⟨lB2, cB2, fB2⟩ := B2.out
  go_wp2_with fail
  refine (graphSplit (b := (m : Int)) (k := 1) HA.out ⟨by omega, by omega⟩ ⟨by decide, by decide⟩).mono ?_
  rintro e w6 ⟨vh, S2, rfl, hO, -, hb⟩
  obtain ⟨⟨fh, eh⟩, hfh⟩ : ∃ fh, fh = splitF fa (m : Int) 1 := ⟨_, rfl⟩
  rw [← hfh] at hO ⊢
  simp only at hO ⊢
  have HFH := Lib.hid hfh
  have HH := Lib.hid hO.reads
  obtain ⟨ap3, cp3, ab3, cb3, rfl, -, -, -, -⟩ := hO.reads.form
  obtain ⟨nh, hnh⟩ : ∃ nh, nh = fh.blocks.length := ⟨_, rfl⟩
  rw [← hnh] at HH ⊢
  have HNH := Lib.hid hnh
  clear hO hfh hnh
  clear lB1 cB1 fB1 lB2 cB2 fB2
  replace B1 := Lib.hid (B1.out.later hb)
  replace B2 := Lib.hid (B2.out.later hb)
  replace HA := Lib.hid (HA.out.later hb)
  replace HW := Lib.hid (HW.out.trans (hb.mono HW.out.size))
  clear hb
  obtain ⟨lB1, cB1, fB1⟩ := B1.out
  obtain ⟨lB2, cB2, fB2⟩ := B2.out

  go_upto_region 6 with (fail)

  have nB3B1 : w6.heap.size ≠ w.heap.size := fun e => by have := lB1; omega
  have nB1B3 : w.heap.size ≠ w6.heap.size := fun e => nB3B1 e.symm
  have nB3B2 : w6.heap.size ≠ w4.heap.size := fun e => by have := lB2; omega
  have nB2B3 : w4.heap.size ≠ w6.heap.size := fun e => nB3B2 e.symm
  have B1_ : Box (w6.alloc (.cells #[.slice ap3 fh.params.length cp3, .int .i64 fh.arrays, .int .i64 fh.cells, .slice ab3 nh cb3] 30)) (w.heap.size) #[.slice ap f.params.length cp, .int .i64 f.arrays, .int .i64 f.cells, .slice (some ⟨bb, bo, none⟩) nb cb] := by simpa using (B1.out.alloc _)
  have B2_ : Box (w6.alloc (.cells #[.slice ap3 fh.params.length cp3, .int .i64 fh.arrays, .int .i64 fh.cells, .slice ab3 nh cb3] 30)) (w4.heap.size) #[.slice ap2 fa.params.length cp2, .int .i64 fa.arrays, .int .i64 fa.cells, .slice ab2 fa.blocks.length cb2] := by simpa using (B2.out.alloc _)
  have B3_ : Box (w6.alloc (.cells #[.slice ap3 fh.params.length cp3, .int .i64 fh.arrays, .int .i64 fh.cells, .slice ab3 nh cb3] 30)) (w6.heap.size) #[.slice ap3 fh.params.length cp3, .int .i64 fh.arrays, .int .i64 fh.cells, .slice ab3 nh cb3] := by simpa using (Box.new w6 #[.slice ap3 fh.params.length cp3, .int .i64 fh.arrays, .int .i64 fh.cells, .slice ab3 nh cb3] 30)
  have HH_ := (HH.out.alloc (.cells #[.slice ap3 fh.params.length cp3, .int .i64 fh.arrays, .int .i64 fh.cells, .slice ab3 nh cb3] 30))
  have HW_ : Below w.heap.size w (w6.alloc (.cells #[.slice ap3 fh.params.length cp3, .int .i64 fh.arrays, .int .i64 fh.cells, .slice ab3 nh cb3] 30)) := (HW.out.alloc (by first | exact Nat.le_refl _ | exact HW.out.size | (simp only [World.size_alloc, World.size_setCell]; have := HW.out.size; omega)) _)
  clear lB1 cB1 fB1 lB2 cB2 fB2
  clear B1 B2 HH HW
  generalize (w6.alloc (.cells #[.slice ap3 fh.params.length cp3, .int .i64 fh.arrays, .int .i64 fh.cells, .slice ab3 nh cb3] 30)) = w7 at *
  have B1 := Lib.hid B1_
  clear B1_
  have B2 := Lib.hid B2_
  clear B2_
  have B3 := Lib.hid B3_
  clear B3_
  have HH := Lib.hid HH_
  clear HH_
  have HW := Lib.hid HW_
  clear HW_
  obtain ⟨lB1, cB1, fB1⟩ := B1.out
  obtain ⟨lB2, cB2, fB2⟩ := B2.out
  obtain ⟨lB3, cB3, fB3⟩ := B3.out
  cases he1 : (ea != 0)
  rotate_left
  · go_wp2
    go_ret
    exact ⟨rfl, HW.out⟩
  cases he2 : (eh != 0)
  rotate_left
  · go_wp2
    go_ret
    exact ⟨rfl, HW.out⟩
  obtain rfl : ea = 0 := by simpa using he1
  obtain rfl : eh = 0 := by simpa using he2
  obtain ⟨hch, x, x2, t0, t1, hx, hto, hlen, hx2, hto2, hj0, hj1⟩ := apart HFA.out.symm HFH.out.symm
  have HCH := Lib.hid hch
  rw [← HNB.out] at hlen hto2 hj0 hj1
  rw [← HNH.out] at hlen
  subst hlen
  obtain ⟨api, aii, ati, cpi, cii, cti, hC⟩ := HBX.out m x hx
  obtain ⟨ap4, cp4, ab4, cb4, he4, -, -, -, hBh⟩ := HH.out.form
  obtain ⟨rfl, rfl⟩ : ab3 = ab4 ∧ cb3 = cb4 := by injection he4 with h; simp at h; exact ⟨h.2.1, h.2.2.2⟩
  obtain ⟨a5, c5, bh, oh, he5, hbch, hbmh, -, hbah, hbxh⟩ := blocks_parts hBh
  rw [← HNH.out] at he5 hbch hbah
  cases he5
  obtain ⟨rfl, hbhw⟩ := hbah (by omega)
  obtain ⟨aj, ai2, at2, cj, ci2, ct2, hC2⟩ := hbxh m x2 hx2
  obtain ⟨p0, i0, u0, y0, z0, v0, hD0⟩ := hbxh nb _ hj0
  obtain ⟨p1, i1, u1, y1, z1, v1, hD1⟩ := hbxh (nb + 1) _ hj1
  have hcl := hC.to
  obtain ⟨a6, c6, bt, ot, he6, -, -, hta, htx⟩ := hcl.parts
  cases he6
  obtain ⟨rfl, htw⟩ := hta (by rw [hto]; simp)
  have ht0 := htx 0 (by rw [hto]; simp)
  have ht1 := htx 1 (by rw [hto]; simp)
  rw [hto, List.getD_cons_zero, Nat.add_zero] at ht0
  rw [hto, List.getD_cons_succ, List.getD_cons_zero] at ht1
  have hc2 := hC2.to
  obtain ⟨a7, c7, bn, on, he7, -, -, hna, hnx⟩ := hc2.parts
  cases he7
  obtain ⟨rfl, hnw⟩ := hna (by rw [hto2]; simp)
  have hn0' := hnx 0 (by rw [hto2]; simp)
  have hn1' := hnx 1 (by rw [hto2]; simp)
  rw [hto2, List.getD_cons_zero, Nat.add_zero] at hn0'
  rw [hto2, List.getD_cons_succ, List.getD_cons_zero] at hn1'
  have hk4 := (hC.below HW.out hbw).c4
  have hk42 := hC2.c4
  rw [hto] at hk4
  rw [hto2] at hk42
  simp only [List.length_cons, List.length_nil, Nat.zero_add, Nat.reduceAdd] at hk4 hk42
  have HT0 := Lib.hid ht0
  have HT1 := Lib.hid ht1
  have HD0 := Lib.hid hD0
  have HD1 := Lib.hid hD1
  clear hcl hta htx hc2 hna hnx hC hC2 ht0 ht1 hD0 hD1 hbxh hBh hx2 hx hto hto2 hj0 hj1 hch HFA HFH he1 he2 he4
  go_upto_region 9 with (fail)
  go_quiet (fail)
  clear lB1 cB1 fB1 lB2 cB2 fB2 lB3 cB3 fB3
  have hbd := below_drewN (Below.refl w7.heap.size w7) nq
  replace HW := Lib.hid (below_drewN HW.out nq)
  replace B3 := Lib.hid (B3.out.drewN nq)
  replace HH := Lib.hid (HH.out.below hbd)
  have hm0 := (hbd.cell (p := ⟨bn, on, none⟩) hnw).trans hn0'
  have hm1 := (hbd.cell (p := ⟨bn, on + 1, none⟩) hnw).trans hn1'
  replace HD0 := Lib.hid (HD0.out.below hbd hbhw)
  replace HD1 := Lib.hid (HD1.out.below hbd hbhw)
  have hbhw' : bh < (w7.drewN nq).heap.size := Nat.lt_of_lt_of_le hbhw hbd.size
  clear hbd hn0' hn1' hk4 hk42 B1 B2 hnw hbhw
  generalize w7.drewN nq = w8 at *


  obtain ⟨lB3, cB3, fB3⟩ := B3.out
  go_wp2_with fail
  have HBT : Hid (HoldsT w bt ot t0 t1) := Lib.hid ⟨htw, HT0.out, HT1.out⟩
  have HB3 := B3
  have HW8 := HW
  clear lB3 cB3 fB3
  clear hm0 hm1 HT0 HT1
  go_loopw [13] (fun i wr => ∃ k : Nat, k ≤ 2 ∧ i = .int .i64 k ∧ Since w8 wr) (fun i _ => 2 - (intOf i).toNat)
  case atStart => exact ⟨0, Nat.zero_le _, rfl, Below.refl _ _⟩
  case round =>
    obtain ⟨k, hk, rfl, hs⟩ := hrel
    have HS := Lib.hid hs
    replace HW := Lib.hid (HW8.out.trans (Below.mono hs HW8.out.size))
    replace B3 := Lib.hid (HB3.out.later hs)
    replace HH := Lib.hid (HH.out.below hs)
    clear hs

    obtain ⟨lB3, cB3, fB3⟩ := B3.out
    by_cases hlt : k < 2
    · obtain ⟨tk, p, q, u, y, z, v, hd, ht⟩ : ∃ (tk : Nat) (p q u : Option Addr) (y z v : Nat), BlockC w8 bh (oh + (nb + k) * 6) (jumpB tk) p q u y z v ∧ w.cell? ⟨bt, ot + k, none⟩ = some (.int .i64 (tk : Int)) := by
        by_cases e : k = 0
        · subst e; exact ⟨t0, _, _, _, _, _, _, HD0.out, HBT.out.2.1⟩
        · obtain rfl : k = 1 := by omega
          exact ⟨t1, _, _, _, _, _, _, HD1.out, HBT.out.2.2⟩
      obtain ⟨s, hs⟩ : ∃ s, s = nb + k := ⟨_, rfl⟩
      rw [← hs] at hd
      have HD := Lib.hid hd


      have e1 : IntKind.i64.wrap ((nb : Int) + (k : Int)) = (s : Int) := by rw [i64_add ⟨by omega, by omega⟩]; omega
      have hsl : s < nb + 2 := by omega
      have hto := hd.to
      obtain ⟨a8, c8, bu, ou, he8, -, -, hua, hux⟩ := hto.parts
      cases he8
      obtain ⟨rfl, huw⟩ := hua (by simp [jumpB])
      have hu0 : w8.cell? ⟨bu, ou, none⟩ = some (.int .i64 (tk : Int)) := by have h9 := hux 0 (by simp [jumpB]); simpa [jumpB] using h9
      obtain ⟨d0, d1, d2, d3, d4, d5, -, -, -, -, -, -⟩ := hd.below HS.out hbhw'
      have d0' : wr.cell? ⟨bh, oh + s * 6, none⟩ = some (.slice p 0 y) := d0
      have d1' : wr.cell? ⟨bh, oh + s * 6 + 1, none⟩ = some (.slice q 0 z) := d1
      have d2' : wr.cell? ⟨bh, oh + s * 6 + 2, none⟩ = some (.int .i64 1) := d2
      have d3' : wr.cell? ⟨bh, oh + s * 6 + 3, none⟩ = some (.int .i64 (-1)) := d3
      have d4' : wr.cell? ⟨bh, oh + s * 6 + 4, none⟩ = some (.slice (some ⟨bu, ou, none⟩) 1 v) := d4
      have d5' : wr.cell? ⟨bh, oh + s * 6 + 5, none⟩ = some (.int .i64 0) := d5
      clear d0 d1 d2 d3 d4 d5 hto hua hux hd hs
      go_upto_region 16 with (fail)
      have nB4B3 : wr.heap.size ≠ w6.heap.size := fun e => by have := lB3; omega
      have nB3B4 : w6.heap.size ≠ wr.heap.size := fun e => nB4B3 e.symm
      have B3_ : Box (wr.alloc (.cells #[.int .i64 1, .int .i64 (-1), .slice (some ⟨bu, ou, none⟩) 1 v, .int .i64 0] 53)) (w6.heap.size) #[.slice ap3 fh.params.length cp3, .int .i64 fh.arrays, .int .i64 fh.cells, .slice (some ⟨bh, oh, none⟩) (nb + 2) cb3] := by simpa using (B3.out.alloc _)
      have B4_ : Box (wr.alloc (.cells #[.int .i64 1, .int .i64 (-1), .slice (some ⟨bu, ou, none⟩) 1 v, .int .i64 0] 53)) (wr.heap.size) #[.int .i64 1, .int .i64 (-1), .slice (some ⟨bu, ou, none⟩) 1 v, .int .i64 0] := by simpa using (Box.new wr #[.int .i64 1, .int .i64 (-1), .slice (some ⟨bu, ou, none⟩) 1 v, .int .i64 0] 53)
      have HH_ := (HH.out.alloc (.cells #[.int .i64 1, .int .i64 (-1), .slice (some ⟨bu, ou, none⟩) 1 v, .int .i64 0] 53))
      have HS_ := (HS.out.alloc (.cells #[.int .i64 1, .int .i64 (-1), .slice (some ⟨bu, ou, none⟩) 1 v, .int .i64 0] 53))
      have HW_ : Below w.heap.size w (wr.alloc (.cells #[.int .i64 1, .int .i64 (-1), .slice (some ⟨bu, ou, none⟩) 1 v, .int .i64 0] 53)) := (HW.out.alloc (by first | exact Nat.le_refl _ | exact HW.out.size | (simp only [World.size_alloc, World.size_setCell]; have := HW.out.size; omega)) _)
      clear lB3 cB3 fB3
      clear B3 HH HS HW
      generalize (wr.alloc (.cells #[.int .i64 1, .int .i64 (-1), .slice (some ⟨bu, ou, none⟩) 1 v, .int .i64 0] 53)) = w9 at *
      have B3 := Lib.hid B3_
      clear B3_
      have B4 := Lib.hid B4_
      clear B4_
      have HH := Lib.hid HH_
      clear HH_
      have HS := Lib.hid HS_
      clear HS_
      have HW := Lib.hid HW_
      clear HW_
      obtain ⟨lB3, cB3, fB3⟩ := B3.out
      obtain ⟨lB4, cB4, fB4⟩ := B4.out
      clear d0' d1' d2' d3' d4' d5'
      obtain ⟨d0, d1, -, -, -, -, -, -, -, -, -, -⟩ := HD.out.below HS.out hbhw'
      have d0' : w9.cell? ⟨bh, oh + s * 6, none⟩ = some (.slice p 0 y) := d0
      have d1' : w9.cell? ⟨bh, oh + s * 6 + 1, none⟩ = some (.slice q 0 z) := d1
      have du := (Below.cell HS.out (p := ⟨bu, ou, none⟩) huw).trans hu0
      have dt := (HW.out.cell (p := ⟨bt, ot + k, none⟩) HBT.out.1).trans ht
      have ett : ((tk : Int) != (tk : Int)) = false := by simp
      clear d0 d1 hu0 ht HD
      go_quiet (fail)
      go_wp2
      go_roundw
      case rel => exact ⟨k + 1, hlt, by go_num, HS.out.later (below_drewN (Below.refl _ _) _)⟩
      case measure => simp [intOf]; omega
    · have hkn : k = 2 := by omega
      go_wp2_with fail
      refine (refCheck HH.out).mono ?_
      rintro e w9 ⟨rfl, hb⟩
      rw [HCH.out]
      clear lB3 cB3 fB3
      replace B3 := Lib.hid (B3.out.later hb)
      replace HH := Lib.hid (HH.out.later hb)
      replace HW := Lib.hid (HW.out.trans (hb.mono HW.out.size))
      clear hb
      obtain ⟨lB3, cB3, fB3⟩ := B3.out
      go_wp2
      go_ret
      exact ⟨rfl, HW.out⟩
end Go.Proofs.Ytefpmjnimnmniaa
