/- ChainSwaps: the walk. -/
import Derived.Test.YtpocmldhgnphlaaAlg
namespace Go.Proofs.Ytpocmldhgnphlaa
set_option linter.unusedSimpArgs false
set_option linter.unusedVariables false
open Go.RowKit

theorem below_alloc {w w' : World} {o : Obj} (h : Below (w.alloc o).heap.size (w.alloc o) w') : Below w.heap.size w w' := ((Below.refl _ _).alloc (Nat.le_refl _) o).trans (h.mono (by simp))
theorem Ints.alloc {w : World} {v : Value} {xs : List Int} (h : Ints w v xs) (o : Obj) : Ints (w.alloc o) v xs := h.below ((Below.refl _ _).alloc (Nat.le_refl _) o)
theorem lists_three {w : World} {e : TypeId} {u v x : Value} {xs ys zs : List Int} (hu : Ints w u xs) (hv : Ints w v ys) (hx : Ints w x zs) :
    Lists (w.alloc (.cells #[u, v, x] e)) (.slice (some ⟨w.heap.size, 0, none⟩) 3 3) [xs, ys, zs] := by
  refine ⟨[u, v, x], rfl, ⟨rfl, by simp, _, 3, rfl, by simp, by simp [maxLen], by simp, ?_⟩, ?_⟩
  · intro ad ha j z hj
    cases ha
    match j, hj with
    | 0, hj => simp at hj; subst hj; rw [add_zero, World.cell?_alloc_at _ _ _ _ rfl]; rfl
    | 1, hj => simp at hj; subst hj; rw [add_mk, World.cell?_alloc_at _ _ _ _ rfl]; rfl
    | 2, hj => simp at hj; subst hj; rw [add_mk, World.cell?_alloc_at _ _ _ _ rfl]; rfl
    | j + 3, hj => simp at hj
  · intro j hj
    match j, hj with
    | 0, _ => exact hu.alloc _
    | 1, _ => exact hv.alloc _
    | 2, _ => exact hx.alloc _
    | j + 3, hj => simp at hj; omega

theorem mulOk {w : World} {u v : Value} {xs ys : List Int} (h : (trim xs).length + (trim ys).length ≤ 16) (hu : Ints w u xs) (hv : Ints w v ys) :
    Calls Try.prog 24 #[u, v] w fun e w' => ∃ a n c, e = .returned (.tuple #[.slice a n c, .int .i64 0]) ∧ Ints w' (.slice a n c) (trim (mulOut xs ys)) ∧ Below w.heap.size w w' := by
  refine (chainMul hu hv).mono fun e w' ⟨a, n, c, he, hi, hb⟩ => ⟨a, n, c, ?_, ?_, hb⟩
  · rw [he, mulE_short h]; rfl
  · rw [mulE_short h] at hi; exact hi
theorem addOk {w : World} {v : Value} {xss : List (List Int)} (h : xss.any isLong = false) (hv : Lists w v xss) :
    Calls Try.prog 12 #[v] w fun e w' => ∃ a n c, e = .returned (.tuple #[.slice a n c, .int .i64 0]) ∧ Ints w' (.slice a n c) (addL xss) ∧ Below w.heap.size w w' := by
  refine (chainAdd hv).mono fun e w' ⟨a, n, c, he, hi, hb⟩ => ⟨a, n, c, ?_, ?_, hb⟩
  · rw [he, h]; rfl
  · rw [addR_short h] at hi; exact hi
theorem mulT_len (xs ys : List Int) : (trim (mulOut xs ys)).length ≤ xs.length + ys.length := by
  have h1 := trim_le (mulOut xs ys)
  rw [mulOut_len] at h1
  have h2 := trim_le xs
  have h3 := trim_le ys
  omega

set_option maxRecDepth 100000 in
set_option maxHeartbeats 6400000 in
theorem walkSwaps {w : World} {u v x : Value} {xs ys zs : List Int} (hu : Ints w u xs) (hv : Ints w v ys) (hx : Ints w x zs) :
    Calls Try.prog 8 #[u, v, x] w fun e w' => e = .returned (.bool true) ∧ Below w.heap.size w w' := by
  have HV0 := Lib.hid hv
  have HX0 := Lib.hid hx
  go_enter Try.func8, Try.ntmps8
  go_wp2_with fail
  refine (cut 5 (by omega) hu).mono ?_
  rintro e w1 ⟨u1, rfl, hu1, rfl⟩
  go_wp2_with fail
  refine (cut 5 (by omega) HV0.out).mono ?_
  rintro e w1 ⟨v1, rfl, hv1, rfl⟩
  go_wp2_with fail
  refine (cut 5 (by omega) HX0.out).mono ?_
  rintro e w1 ⟨x1, rfl, hx1, rfl⟩
  have HA := Lib.hid hu1
  have HD := Lib.hid hv1
  have HC := Lib.hid hx1
  have HLA := Lib.hid (List.length_take_le 5 xs)
  have HLB := Lib.hid (List.length_take_le 5 ys)
  have HLC := Lib.hid (List.length_take_le 5 zs)
  have HB1 := Lib.hid (Below.refl w1.heap.size w1)
  clear hu hv hx hu1 hv1 hx1 HV0 HX0
  generalize xs.take 5 = a at *
  generalize ys.take 5 = b at *
  generalize zs.take 5 = c at *
  obtain ⟨aa, ca, rfl⟩ := HA.out.form
  obtain ⟨ab, cb, rfl⟩ := HD.out.form
  obtain ⟨ac, cc, rfl⟩ := HC.out.form
  have la := HLA.out
  have lb := HLB.out
  have lc := HLC.out
  have ls : (addL [b, c]).length ≤ 5 := len2 lb lc
  have lu : (addL [c, addL [b, c], a]).length ≤ 5 := len3 lc ls la
  have lx : (trim (mulOut a b)).length ≤ 10 := Nat.le_trans (mulT_len a b) (by omega)
  have lq : (trim (mulOut a c)).length ≤ 10 := Nat.le_trans (mulT_len a c) (by omega)
  have lv : (trim (mulOut [-1] c)).length ≤ 10 := Nat.le_trans (mulT_len [-1] c) (by simp; omega)
  have ta := trim_le a
  have tb := trim_le b
  have tc := trim_le c
  have ts := trim_le (addL [b, c])
  have M1 := Lib.hid (show (trim a).length + (trim b).length ≤ 16 by omega)
  have M2 := Lib.hid (show (trim b).length + (trim a).length ≤ 16 by omega)
  have M3 := Lib.hid (show (trim a).length + (trim (addL [b, c])).length ≤ 16 by omega)
  have M4 := Lib.hid (show (trim a).length + (trim c).length ≤ 16 by omega)
  have M5 := Lib.hid (show (trim a).length + (trim [1, 0]).length ≤ 16 by have := trim_le [1, 0]; simp at this; omega)
  have M6 := Lib.hid (show (trim [-1]).length + (trim c).length ≤ 16 by have := trim_le [-1]; simp at this; omega)
  have A1 := Lib.hid (any2 (xs := b) (ys := c) (by omega) (by omega))
  have A2 := Lib.hid (any2 (xs := trim (mulOut a b)) (ys := trim (mulOut a c)) (by omega) (by omega))
  have A3 := Lib.hid (any3 (xs := a) (ys := b) (zs := c) (by omega) (by omega) (by omega))
  have A4 := Lib.hid (any3 (xs := c) (ys := addL [b, c]) (zs := a) (by omega) (by omega) (by omega))
  have A5 := Lib.hid (any2 (xs := addL [c, addL [b, c], a]) (ys := trim (mulOut [-1] c)) (by omega) (by omega))
  have E1 := Lib.hid (mul_comm_chain (a := a) (b := b))
  have E2 := Lib.hid (mul_add_chain (a := a) (b := b) (c := c) (by omega) (by omega) (by omega) (by omega))
  have E3 := Lib.hid (mul_one_chain HA.out.2)
  have E4 := Lib.hid (add_swap_chain (a := a) (b := b) (c := c) (by omega) (by omega) (by omega))
  clear la lb lc ls lu lx lq lv ta tb tc ts HLA HLB HLC
  generalize a.length = na at *
  generalize b.length = nb at *
  generalize c.length = nc at *
  go_wp2_with fail
  refine (mulOk M1.out HA.out HD.out).mono ?_
  rintro e w2 ⟨a2, n2, c2, rfl, hi2, hb2⟩
  have HB2 := Lib.hid (HB1.out.trans (hb2.mono HB1.out.size))
  have HA2 := Lib.hid (HA.out.below hb2)
  have HD2 := Lib.hid (HD.out.below hb2)
  have HC2 := Lib.hid (HC.out.below hb2)
  have HX2 := Lib.hid hi2
  clear hb2 hi2
  go_wp2_with fail
  refine (mulOk M2.out HD2.out HA2.out).mono ?_
  rintro e w3 ⟨a3, n3, c3, rfl, hi3, hb3⟩
  have HB3 := Lib.hid (HB2.out.trans (hb3.mono HB2.out.size))
  have HA3 := Lib.hid (HA2.out.below hb3)
  have HD3 := Lib.hid (HD2.out.below hb3)
  have HC3 := Lib.hid (HC2.out.below hb3)
  have HX3 := Lib.hid (HX2.out.below hb3)
  have HY3 := Lib.hid hi3
  clear hb3 hi3
  go_wp2_with fail
  refine (addOk A1.out (lists_two HD3.out HC3.out)).mono ?_
  rintro e w4 ⟨a4, n4, c4, rfl, hi4, hb4⟩
  replace hb4 := below_alloc hb4
  have HB4 := Lib.hid (HB3.out.trans (hb4.mono HB3.out.size))
  have HA4 := Lib.hid (HA3.out.below hb4)
  have HD4 := Lib.hid (HD3.out.below hb4)
  have HC4 := Lib.hid (HC3.out.below hb4)
  have HX4 := Lib.hid (HX3.out.below hb4)
  have HY4 := Lib.hid (HY3.out.below hb4)
  have HS4 := Lib.hid hi4
  clear hb4 hi4
  go_wp2_with fail
  refine (mulOk M3.out HA4.out HS4.out).mono ?_
  rintro e w5 ⟨a5, n5, c5, rfl, hi5, hb5⟩
  have HB5 := Lib.hid (HB4.out.trans (hb5.mono HB4.out.size))
  have HA5 := Lib.hid (HA4.out.below hb5)
  have HD5 := Lib.hid (HD4.out.below hb5)
  have HC5 := Lib.hid (HC4.out.below hb5)
  have HX5 := Lib.hid (HX4.out.below hb5)
  have HY5 := Lib.hid (HY4.out.below hb5)
  have HS5 := Lib.hid (HS4.out.below hb5)
  have HP5 := Lib.hid hi5
  clear hb5 hi5
  go_wp2_with fail
  refine (mulOk M4.out HA5.out HC5.out).mono ?_
  rintro e w6 ⟨a6, n6, c6, rfl, hi6, hb6⟩
  have HB6 := Lib.hid (HB5.out.trans (hb6.mono HB5.out.size))
  have HA6 := Lib.hid (HA5.out.below hb6)
  have HD6 := Lib.hid (HD5.out.below hb6)
  have HC6 := Lib.hid (HC5.out.below hb6)
  have HX6 := Lib.hid (HX5.out.below hb6)
  have HY6 := Lib.hid (HY5.out.below hb6)
  have HS6 := Lib.hid (HS5.out.below hb6)
  have HP6 := Lib.hid (HP5.out.below hb6)
  have HQ6 := Lib.hid hi6
  clear hb6 hi6
  go_wp2_with fail
  refine (addOk A2.out (lists_two HX6.out HQ6.out)).mono ?_
  rintro e w7 ⟨a7, n7, c7, rfl, hi7, hb7⟩
  replace hb7 := below_alloc hb7
  have HB7 := Lib.hid (HB6.out.trans (hb7.mono HB6.out.size))
  have HA7 := Lib.hid (HA6.out.below hb7)
  have HD7 := Lib.hid (HD6.out.below hb7)
  have HC7 := Lib.hid (HC6.out.below hb7)
  have HX7 := Lib.hid (HX6.out.below hb7)
  have HY7 := Lib.hid (HY6.out.below hb7)
  have HS7 := Lib.hid (HS6.out.below hb7)
  have HP7 := Lib.hid (HP6.out.below hb7)
  have HQ7 := Lib.hid (HQ6.out.below hb7)
  have HR7 := Lib.hid hi7
  clear hb7 hi7
  go_wp2_with fail
  refine (mulOk M5.out (HA7.out.alloc _) (ints_lit (e := 3) [1, 0] #[.int .i64 1, .int .i64 0] rfl 2 rfl (by omega) (by simp [In64]))).mono ?_
  rintro e w8 ⟨a8, n8, c8, rfl, hi8, hb8⟩
  replace hb8 := below_alloc hb8
  have HB8 := Lib.hid (HB7.out.trans (hb8.mono HB7.out.size))
  have HA8 := Lib.hid (HA7.out.below hb8)
  have HD8 := Lib.hid (HD7.out.below hb8)
  have HC8 := Lib.hid (HC7.out.below hb8)
  have HX8 := Lib.hid (HX7.out.below hb8)
  have HY8 := Lib.hid (HY7.out.below hb8)
  have HS8 := Lib.hid (HS7.out.below hb8)
  have HP8 := Lib.hid (HP7.out.below hb8)
  have HQ8 := Lib.hid (HQ7.out.below hb8)
  have HR8 := Lib.hid (HR7.out.below hb8)
  have HO8 := Lib.hid hi8
  clear hb8 hi8
  go_wp2_with fail
  refine (addOk A3.out (lists_three HA8.out HD8.out HC8.out)).mono ?_
  rintro e w9 ⟨a9, n9, c9, rfl, hi9, hb9⟩
  replace hb9 := below_alloc hb9
  have HB9 := Lib.hid (HB8.out.trans (hb9.mono HB8.out.size))
  have HA9 := Lib.hid (HA8.out.below hb9)
  have HD9 := Lib.hid (HD8.out.below hb9)
  have HC9 := Lib.hid (HC8.out.below hb9)
  have HX9 := Lib.hid (HX8.out.below hb9)
  have HY9 := Lib.hid (HY8.out.below hb9)
  have HS9 := Lib.hid (HS8.out.below hb9)
  have HP9 := Lib.hid (HP8.out.below hb9)
  have HQ9 := Lib.hid (HQ8.out.below hb9)
  have HR9 := Lib.hid (HR8.out.below hb9)
  have HO9 := Lib.hid (HO8.out.below hb9)
  have HT9 := Lib.hid hi9
  clear hb9 hi9
  go_wp2_with fail
  refine (addOk A4.out (lists_three HC9.out HS9.out HA9.out)).mono ?_
  rintro e w10 ⟨a10, n10, c10, rfl, hi10, hb10⟩
  replace hb10 := below_alloc hb10
  have HB10 := Lib.hid (HB9.out.trans (hb10.mono HB9.out.size))
  have HA10 := Lib.hid (HA9.out.below hb10)
  have HD10 := Lib.hid (HD9.out.below hb10)
  have HC10 := Lib.hid (HC9.out.below hb10)
  have HX10 := Lib.hid (HX9.out.below hb10)
  have HY10 := Lib.hid (HY9.out.below hb10)
  have HS10 := Lib.hid (HS9.out.below hb10)
  have HP10 := Lib.hid (HP9.out.below hb10)
  have HQ10 := Lib.hid (HQ9.out.below hb10)
  have HR10 := Lib.hid (HR9.out.below hb10)
  have HO10 := Lib.hid (HO9.out.below hb10)
  have HT10 := Lib.hid (HT9.out.below hb10)
  have HU10 := Lib.hid hi10
  clear hb10 hi10
  go_wp2_with fail
  refine (mulOk M6.out (ints_lit (e := 3) [-1] #[.int .i64 (-1)] rfl 1 rfl (by omega) (by simp [In64])) (HC10.out.alloc _)).mono ?_
  rintro e w11 ⟨a11, n11, c11, rfl, hi11, hb11⟩
  replace hb11 := below_alloc hb11
  have HB11 := Lib.hid (HB10.out.trans (hb11.mono HB10.out.size))
  have HA11 := Lib.hid (HA10.out.below hb11)
  have HD11 := Lib.hid (HD10.out.below hb11)
  have HC11 := Lib.hid (HC10.out.below hb11)
  have HX11 := Lib.hid (HX10.out.below hb11)
  have HY11 := Lib.hid (HY10.out.below hb11)
  have HS11 := Lib.hid (HS10.out.below hb11)
  have HP11 := Lib.hid (HP10.out.below hb11)
  have HQ11 := Lib.hid (HQ10.out.below hb11)
  have HR11 := Lib.hid (HR10.out.below hb11)
  have HO11 := Lib.hid (HO10.out.below hb11)
  have HT11 := Lib.hid (HT10.out.below hb11)
  have HU11 := Lib.hid (HU10.out.below hb11)
  have HV11 := Lib.hid hi11
  clear hb11 hi11
  go_wp2_with fail
  refine (addOk A5.out (lists_two HU11.out HV11.out)).mono ?_
  rintro e w12 ⟨a12, n12, c12, rfl, hi12, hb12⟩
  replace hb12 := below_alloc hb12
  have HB12 := Lib.hid (HB11.out.trans (hb12.mono HB11.out.size))
  have HA12 := Lib.hid (HA11.out.below hb12)
  have HX12 := Lib.hid (HX11.out.below hb12)
  have HY12 := Lib.hid (HY11.out.below hb12)
  have HP12 := Lib.hid (HP11.out.below hb12)
  have HR12 := Lib.hid (HR11.out.below hb12)
  have HO12 := Lib.hid (HO11.out.below hb12)
  have HT12 := Lib.hid (HT11.out.below hb12)
  have HW12 := Lib.hid hi12
  clear hb12 hi12
  go_wp2_with fail
  refine (awake).mono ?_
  rintro e w13 ⟨rfl, hb13⟩
  have HB13 := Lib.hid (HB12.out.trans (hb13.mono HB12.out.size))
  have HA13 := Lib.hid (HA12.out.below hb13)
  have HX13 := Lib.hid (HX12.out.below hb13)
  have HY13 := Lib.hid (HY12.out.below hb13)
  have HP13 := Lib.hid (HP12.out.below hb13)
  have HR13 := Lib.hid (HR12.out.below hb13)
  have HO13 := Lib.hid (HO12.out.below hb13)
  have HT13 := Lib.hid (HT12.out.below hb13)
  have HW13 := Lib.hid (HW12.out.below hb13)
  clear hb13
  go_wp2_with fail
  refine (sameB HX13.out HY13.out).mono ?_
  rintro e w14 ⟨rfl, hb14⟩
  have HB14 := Lib.hid (HB13.out.trans (hb14.mono HB13.out.size))
  have HA14 := Lib.hid (HA13.out.below hb14)
  have HX14 := Lib.hid (HX13.out.below hb14)
  have HY14 := Lib.hid (HY13.out.below hb14)
  have HP14 := Lib.hid (HP13.out.below hb14)
  have HR14 := Lib.hid (HR13.out.below hb14)
  have HO14 := Lib.hid (HO13.out.below hb14)
  have HT14 := Lib.hid (HT13.out.below hb14)
  have HW14 := Lib.hid (HW13.out.below hb14)
  clear hb14
  rw [decide_eq_true E1.out]
  go_wp2_with fail
  refine (sameB HP14.out HR14.out).mono ?_
  rintro e w15 ⟨rfl, hb15⟩
  have HB15 := Lib.hid (HB14.out.trans (hb15.mono HB14.out.size))
  have HA15 := Lib.hid (HA14.out.below hb15)
  have HX15 := Lib.hid (HX14.out.below hb15)
  have HY15 := Lib.hid (HY14.out.below hb15)
  have HP15 := Lib.hid (HP14.out.below hb15)
  have HR15 := Lib.hid (HR14.out.below hb15)
  have HO15 := Lib.hid (HO14.out.below hb15)
  have HT15 := Lib.hid (HT14.out.below hb15)
  have HW15 := Lib.hid (HW14.out.below hb15)
  clear hb15
  rw [decide_eq_true E2.out]
  go_wp2_with fail
  refine (chainTrim' HA15.out).mono ?_
  rintro e w16 ⟨a16, c16, rfl, hi16, -, hb16⟩
  have HB16 := Lib.hid (HB15.out.trans (hb16.mono HB15.out.size))
  have HA16 := Lib.hid (HA15.out.below hb16)
  have HX16 := Lib.hid (HX15.out.below hb16)
  have HY16 := Lib.hid (HY15.out.below hb16)
  have HP16 := Lib.hid (HP15.out.below hb16)
  have HR16 := Lib.hid (HR15.out.below hb16)
  have HO16 := Lib.hid (HO15.out.below hb16)
  have HT16 := Lib.hid (HT15.out.below hb16)
  have HW16 := Lib.hid (HW15.out.below hb16)
  have HK16 := Lib.hid hi16
  clear hb16 hi16
  go_wp2_with fail
  refine (sameB HO16.out HK16.out).mono ?_
  rintro e w17 ⟨rfl, hb17⟩
  have HB17 := Lib.hid (HB16.out.trans (hb17.mono HB16.out.size))
  have HA17 := Lib.hid (HA16.out.below hb17)
  have HX17 := Lib.hid (HX16.out.below hb17)
  have HY17 := Lib.hid (HY16.out.below hb17)
  have HP17 := Lib.hid (HP16.out.below hb17)
  have HR17 := Lib.hid (HR16.out.below hb17)
  have HO17 := Lib.hid (HO16.out.below hb17)
  have HT17 := Lib.hid (HT16.out.below hb17)
  have HW17 := Lib.hid (HW16.out.below hb17)
  have HK17 := Lib.hid (HK16.out.below hb17)
  clear hb17
  rw [decide_eq_true E3.out]
  go_wp2_with fail
  refine (sameB HT17.out HW17.out).mono ?_
  rintro e w18 ⟨rfl, hb18⟩
  have HB18 := Lib.hid (HB17.out.trans (hb18.mono HB17.out.size))
  have HA18 := Lib.hid (HA17.out.below hb18)
  have HX18 := Lib.hid (HX17.out.below hb18)
  have HY18 := Lib.hid (HY17.out.below hb18)
  have HP18 := Lib.hid (HP17.out.below hb18)
  have HR18 := Lib.hid (HR17.out.below hb18)
  have HO18 := Lib.hid (HO17.out.below hb18)
  have HT18 := Lib.hid (HT17.out.below hb18)
  have HW18 := Lib.hid (HW17.out.below hb18)
  have HK18 := Lib.hid (HK17.out.below hb18)
  clear hb18
  rw [decide_eq_true E4.out]
  go_wp2
  go_ret
  exact ⟨rfl, HB18.out⟩
end Go.Proofs.Ytpocmldhgnphlaa
