/- What the claim needs, part 23. -/
import Derived.Test.YtefpmjnimnmniaaG22
namespace Go.Proofs.Ytefpmjnimnmniaa
set_option linter.unusedSimpArgs false
set_option linter.unusedVariables false
open Go.RowKit
theorem FuncV.form {W : World} {v : Value} {f : FuncD} (hv : FuncV W v f) : ∃ ap cp ab cb, v = .agg #[.slice ap f.params.length cp, .int .i64 f.arrays, .int .i64 f.cells, .slice ab f.blocks.length cb] ∧ Ints W (.slice ap f.params.length cp) f.params ∧ In64 f.arrays ∧ In64 f.cells ∧ SliceOf BlockR 6 W (.slice ab f.blocks.length cb) f.blocks := by
  obtain ⟨a, b, rfl, hp, ha, hc, hB⟩ := hv
  obtain ⟨ap, cp, rfl⟩ := hp.form
  obtain ⟨ab, cb, rfl⟩ := hB.form
  exact ⟨ap, cp, ab, cb, rfl, hp, ha, hc, hB⟩
theorem i64_add {x y : Int} (h : In64 (x + y)) : IntKind.i64.wrap (x + y) = x + y := by
  rw [i64_wrap]; exact wrap_in h
set_option maxHeartbeats 3200000 in
theorem refSize {w : World} {v : Value} {f : FuncD} (hv : FuncV w v f) (hn : f.blocks.length ≤ 512) : Calls Try.prog 57 #[v] w fun e w' => e = .returned (.int .i64 (sizeF f)) ∧ Below w.heap.size w w' := by
  obtain ⟨ap, cp, ab, cb, rfl, hp, ha, hc, hB⟩ := hv.form
  have HSZ := Lib.hid hB
  have HSF : Hid ((f.blocks.map sizeB).sum = sizeF f) := Lib.hid rfl
  obtain ⟨a, cap, b, off, hbe, hbc, hbm, hbl, hba, hx⟩ := blocks_parts hB
  cases hbe
  have HA := Lib.hid hba
  have HX := Lib.hid hx
  obtain ⟨n, hnn⟩ : ∃ n, n = f.blocks.length := ⟨_, rfl⟩
  rw [← hnn] at hn HA hbc hbl ⊢
  have HN := Lib.hid hnn
  clear hba hx hB hp ha hc hv hnn
  generalize f.arrays = ar at *
  generalize f.cells = ce at *
  generalize f.params.length = np at *
  go_enter Try.func57, Try.ntmps57
  go_upto_region 1 with (fail)
  have B1 : Hid (Box (w.alloc (.cells #[.slice ap np cp, .int .i64 ar, .int .i64 ce, .slice ab n cb] 30)) (w.heap.size) #[.slice ap np cp, .int .i64 ar, .int .i64 ce, .slice ab n cb]) := Lib.hid (by simpa using (Box.new w #[.slice ap np cp, .int .i64 ar, .int .i64 ce, .slice ab n cb] 30))
  have HW : Hid (Below w.heap.size w (w.alloc (.cells #[.slice ap np cp, .int .i64 ar, .int .i64 ce, .slice ab n cb] 30))) := Lib.hid ((Below.refl _ _).alloc (Nat.le_refl _) _)
  generalize (w.alloc (.cells #[.slice ap np cp, .int .i64 ar, .int .i64 ce, .slice ab n cb] 30)) = wv at *
  obtain ⟨lB1, cB1, fB1⟩ := B1.out
  go_wp2_with fail
  go_loopw [3, 4] (fun s i wr => ∃ j : Nat, j ≤ n ∧ i = .int .i64 j ∧ s = .int .i64 (n + (((f.blocks.take j).map sizeB).sum - j)) ∧ Below w.heap.size w wr ∧ Box wr w.heap.size #[.slice ap np cp, .int .i64 ar, .int .i64 ce, .slice ab n cb]) (fun _ i _ => n - (intOf i).toNat)
  case atStart => exact ⟨0, Nat.zero_le _, rfl, by simp, HW.out, B1.out⟩
  case round =>
    obtain ⟨j, hj, rfl, rfl, hW, hB1⟩ := hrel
    clear lB1 cB1 fB1
    replace HW := Lib.hid hW
    replace B1 := Lib.hid hB1
    clear hW hB1

    obtain ⟨lB1, cB1, fB1⟩ := B1.out
    by_cases hlt : j < n
    · obtain ⟨rfl, hbw⟩ := HA.out (by omega)
      obtain ⟨x, hjx⟩ : ∃ x, f.blocks[j]? = some x := ⟨_, List.getElem?_eq_getElem (by have := HN.out; omega)⟩
      obtain ⟨ap2, ai, at_, cp2, ci, ct, hC⟩ := HX.out j x hjx
      obtain ⟨c0, c1, c2, c3, c4, c5, h6, h7, h8, h9, h10, h11⟩ := hC.below HW.out hbw
      have hs0 := size_bound HSZ.out j (by omega)
      have hl1 := h6.le
      have hl2 := h7.le
      have HSN := Lib.hid (sum_snoc f.blocks j x hjx)
      have hsx : sizeB x = x.phis.length + x.code.length + 1 := rfl
      rw [hsx] at HSN
      clear h6 h7 h8 h9 h10 h11 hC hjx hsx
      generalize ((f.blocks.take j).map sizeB).sum = s at *
      have e1 : IntKind.i64.wrap ((x.phis.length : Int) + (x.code.length : Int)) = (x.phis.length : Int) + (x.code.length : Int) := i64_add ⟨by omega, by omega⟩
      have e2 : IntKind.i64.wrap ((n + (s - j)) + ((x.phis.length : Int) + (x.code.length : Int))) = (n + (s - j)) + ((x.phis.length : Int) + (x.code.length : Int)) := i64_add ⟨by omega, by omega⟩
      have hs1 := Lib.hid hs0
      go_upto_region 5 with (fail)
      go_quiet (fail)
      clear e1 e2
      go_wp2
      go_roundw
      case rel => exact ⟨j + 1, hlt, by go_num, by rw [HSN.out]; congr 1; omega, below_drewN HW.out _, B1.out.drewN _⟩
      case measure => simp [intOf]; omega
    · obtain rfl : j = n := by omega
      rw [List.take_of_length_le (by have := HN.out; omega)]
      rw [HSF.out]
      rw [show ((j : Int) + (sizeF f - (j : Int))) = sizeF f by omega]
      go_wp2
      go_ret
      exact ⟨rfl, HW.out⟩
theorem shp0_n (op : Int) : 0 ≤ (shp0 op).n ∧ (shp0 op).n ≤ 4 := by
  by_cases h : op < 1 ∨ 25 < op
  · rw [shp0_no h]; simp
  · obtain rfl | rfl | rfl | rfl | rfl | rfl | rfl | rfl | rfl | rfl | rfl | rfl | rfl | rfl | rfl | rfl | rfl | rfl | rfl | rfl | rfl | rfl | rfl | rfl | rfl : op = 1 ∨ op = 2 ∨ op = 3 ∨ op = 4 ∨ op = 5 ∨ op = 6 ∨ op = 7 ∨ op = 8 ∨ op = 9 ∨ op = 10 ∨ op = 11 ∨ op = 12 ∨ op = 13 ∨ op = 14 ∨ op = 15 ∨ op = 16 ∨ op = 17 ∨ op = 18 ∨ op = 19 ∨ op = 20 ∨ op = 21 ∨ op = 22 ∨ op = 23 ∨ op = 24 ∨ op = 25 := by omega
    all_goals decide
set_option maxHeartbeats 6400000 in
theorem refInstr {w : World} {ap ab : Option Addr} {np cp nb cb : Nat} {ar ce : Int} {x : InstrD} {aa : Option Addr} {ca : Nat} (har : 0 ≤ ar ∧ ar ≤ 8) (hce : 0 ≤ ce ∧ ce ≤ 64) :
    Calls Try.prog 94 #[.agg #[.slice ap np cp, .int .i64 ar, .int .i64 ce, .slice ab nb cb], .agg (instrA x aa ca)] w fun e w' => e = .returned (.bool (instrOk ar ce x)) ∧ Below w.heap.size w w' := by
  have HOK : Hid (instrOk ar ce x = ((shp x.op).isSome && (x.args.length == (shp0 x.op).args.length) && nOk ar ce (shp0 x.op).n x.n && ((shp0 x.op).result != 0 || x.id == -1))) := Lib.hid rfl
  obtain ⟨r, hr⟩ : ∃ r, r = instrOk ar ce x := ⟨_, rfl⟩
  rw [← hr] at HOK ⊢
  clear hr
  obtain ⟨op, id, args, N⟩ := x
  unfold instrA
  simp only at *
  obtain ⟨n, hn⟩ : ∃ n, n = args.length := ⟨_, rfl⟩
  rw [← hn] at HOK ⊢
  clear hn
  go_enter Try.func94, Try.ntmps94
  go_upto_region 1 with (fail)
  have B2 : Hid (Box ((w.alloc (.cells #[.slice ap np cp, .int .i64 ar, .int .i64 ce, .slice ab nb cb] 30)).alloc (.cells #[.int .i64 op, .int .i64 id, .slice aa n ca, .int .i64 N] 84)) (w.heap.size) #[.slice ap np cp, .int .i64 ar, .int .i64 ce, .slice ab nb cb]) := Lib.hid (by simpa using ((Box.new w #[.slice ap np cp, .int .i64 ar, .int .i64 ce, .slice ab nb cb] 30).alloc _))
  have B3 : Hid (Box ((w.alloc (.cells #[.slice ap np cp, .int .i64 ar, .int .i64 ce, .slice ab nb cb] 30)).alloc (.cells #[.int .i64 op, .int .i64 id, .slice aa n ca, .int .i64 N] 84)) (w.heap.size + 1) #[.int .i64 op, .int .i64 id, .slice aa n ca, .int .i64 N]) := Lib.hid (by simpa using (Box.new (w.alloc (.cells #[.slice ap np cp, .int .i64 ar, .int .i64 ce, .slice ab nb cb] 30)) #[.int .i64 op, .int .i64 id, .slice aa n ca, .int .i64 N] 84))
  have HW : Hid (Below w.heap.size w ((w.alloc (.cells #[.slice ap np cp, .int .i64 ar, .int .i64 ce, .slice ab nb cb] 30)).alloc (.cells #[.int .i64 op, .int .i64 id, .slice aa n ca, .int .i64 N] 84))) := Lib.hid (((Below.refl _ _).alloc (Nat.le_refl _) _).alloc (by simp) _)
  generalize ((w.alloc (.cells #[.slice ap np cp, .int .i64 ar, .int .i64 ce, .slice ab nb cb] 30)).alloc (.cells #[.int .i64 op, .int .i64 id, .slice aa n ca, .int .i64 N] 84)) = wv at *
  obtain ⟨lB2, cB2, fB2⟩ := B2.out
  obtain ⟨lB3, cB3, fB3⟩ := B3.out
  go_wp2_with fail
  refine (refShape op).mono ?_
  rintro e w1 ⟨rfl, rfl⟩
  have hkn := shp0_n op
  obtain ⟨s, hs⟩ : ∃ s, s = shp0 op := ⟨_, rfl⟩
  obtain ⟨ok, ho⟩ : ∃ ok, ok = (shp op).isSome := ⟨_, rfl⟩
  rw [← hs, ← ho] at HOK
  rw [← hs] at hkn
  simp only [← hs, ← ho]
  clear hs ho
  obtain ⟨res, sargs, kn⟩ := s
  simp only at *
  have hsz : (strA sargs).size = sargs.length := by unfold strA; simp [ByteArray.size]
  generalize strA sargs = st at *
  obtain ⟨l, hl⟩ : ∃ l, l = sargs.length := ⟨_, rfl⟩
  rw [← hl] at HOK hsz
  clear hl
  have HSZ := Lib.hid hsz
  clear hsz
  have HKN := Lib.hid hkn
  clear hkn
  cases ok
  · go_wp2
    go_ret
    exact ⟨by rw [HOK.out]; rfl, HW.out⟩
  · cases hln : ((n : Int) != ((st.size : Nat) : Int))
    rotate_left
    · have HLN := Lib.hid hln
      go_wp2
      go_ret
      exact ⟨by rw [HOK.out, show (n == l) = false by (have := HLN.out; have h2 := HSZ.out; simp at this ⊢; omega)]; rfl, HW.out⟩
    · have HLN : Hid ((n == l) = true) := Lib.hid (by have h2 := HSZ.out; simp at hln ⊢; omega)
      rw [HLN.out, Bool.true_and, Bool.true_and] at HOK
      cases hres : (res == 0)
      rotate_left
      · cases hid : (id != -1)
        rotate_left
        · have HR := Lib.hid hres
          have HI := Lib.hid hid
          go_wp2
          go_ret
          exact ⟨by rw [HOK.out, show (res != 0) = false by (have := HR.out; simp at this; simp [this]), show (id == -1) = false by (have := HI.out; simpa using this)]; simp, HW.out⟩
        · have HI := Lib.hid hid
          have HR := Lib.hid hres
          have HOK2 : Hid (r = nOk ar ce kn N) := Lib.hid (by rw [HOK.out, show (id == -1) = true by simpa using hid]; simp)
          clear HOK
          have hways : kn = 0 ∨ kn = 1 ∨ kn = 2 ∨ kn = 3 ∨ kn = 4 := by have := HKN.out; omega
          have hm1 : IntKind.i64.wrap (ar - 1) = ar - 1 := i64_add ⟨by omega, by omega⟩
          have hm2 : IntKind.i64.wrap (ce - 1) = ce - 1 := i64_add ⟨by omega, by omega⟩
          cases hN0 : decide (0 ≤ N)
          all_goals
            have HN0 := Lib.hid hN0
            rcases hways with rfl | rfl | rfl | rfl | rfl
            all_goals
              go_wp2
              go_ret
              first
                | exact ⟨by rw [HOK2.out]; rfl, HW.out⟩
                | exact ⟨by rw [HOK2.out]; show _ = Ending.returned (.bool (decide (0 ≤ N) && decide (N ≤ 0))); rw [HN0.out]; rfl, HW.out⟩
                | exact ⟨by rw [HOK2.out]; show _ = Ending.returned (.bool (decide (0 ≤ N) && decide (N ≤ 1))); rw [HN0.out]; rfl, HW.out⟩
                | exact ⟨by rw [HOK2.out]; show _ = Ending.returned (.bool (decide (0 ≤ N) && decide (N ≤ ar - 1))); rw [HN0.out]; rfl, HW.out⟩
                | exact ⟨by rw [HOK2.out]; show _ = Ending.returned (.bool (decide (0 ≤ N) && decide (N ≤ ce - 1))); rw [HN0.out]; rfl, HW.out⟩
      · have HR := Lib.hid hres
        have HOK2 : Hid (r = nOk ar ce kn N) := Lib.hid (by rw [HOK.out, show (res != 0) = true by (simp at hres; simpa using hres)]; simp)
        clear HOK
        have hways : kn = 0 ∨ kn = 1 ∨ kn = 2 ∨ kn = 3 ∨ kn = 4 := by have := HKN.out; omega
        have hm1 : IntKind.i64.wrap (ar - 1) = ar - 1 := i64_add ⟨by omega, by omega⟩
        have hm2 : IntKind.i64.wrap (ce - 1) = ce - 1 := i64_add ⟨by omega, by omega⟩
        cases hN0 : decide (0 ≤ N)
        all_goals
          have HN0 := Lib.hid hN0
          rcases hways with rfl | rfl | rfl | rfl | rfl
          all_goals
            go_wp2
            go_ret
            first
              | exact ⟨by rw [HOK2.out]; rfl, HW.out⟩
              | exact ⟨by rw [HOK2.out]; show _ = Ending.returned (.bool (decide (0 ≤ N) && decide (N ≤ 0))); rw [HN0.out]; rfl, HW.out⟩
              | exact ⟨by rw [HOK2.out]; show _ = Ending.returned (.bool (decide (0 ≤ N) && decide (N ≤ 1))); rw [HN0.out]; rfl, HW.out⟩
              | exact ⟨by rw [HOK2.out]; show _ = Ending.returned (.bool (decide (0 ≤ N) && decide (N ≤ ar - 1))); rw [HN0.out]; rfl, HW.out⟩
              | exact ⟨by rw [HOK2.out]; show _ = Ending.returned (.bool (decide (0 ≤ N) && decide (N ≤ ce - 1))); rw [HN0.out]; rfl, HW.out⟩
end Go.Proofs.Ytefpmjnimnmniaa
