/- Part 36. -/
import Derived.Test.YtgmhnepmkaonaaaGreatPE35
namespace Go.Proofs.YtgmhnepmkaonaaaGreat
set_option maxHeartbeats 6400000
set_option linter.all false
open Go.RowKit
def fH:List (Int × Value):=[(3,.func (.func 196) #[] #[]),(4,.func (.func 197) #[] #[]),(5,.func (.func 198) #[] #[]),(6,.func (.func 199) #[] #[]),(7,.func (.func 200) #[] #[]),(8,.func (.func 201) #[] #[]),(9,.func (.func 202) #[] #[]),(10,.func (.func 203) #[] #[]),(11,.func (.func 204) #[] #[]),(12,.func (.func 205) #[] #[]),(13,.func (.func 206) #[] #[]),(14,.func (.func 207) #[] #[]),(15,.func (.func 208) #[] #[])]
def aH6 (w:World) (e:Ending) (w' : World):Prop := ∃ bm,e = .returned (.map (some bm))/\IMap w' bm fH/\Below w.heap.size w w'
theorem iA {w:World}:Calls Tryz.prog 195 #[] w (aH6 w):=by
 have hmm:=@run_makeMap Tryz.prog
 go_enter Tryz.func195,Tryz.ntmps195
 have HI:Hid (IMap (w.alloc (.map #[] 0)) w.heap.size []):=h! (IMap.new w)
 have HTU:Hid (Turn [w.heap.size] (w.alloc (.map #[] 0)) (w.alloc (.map #[] 0))):=h! (Turn.refl _ _)
 go_wp2_with (with_reducible refine fL (q:=.i64) (b:=w.heap.size) rfl _ _ _ _ (.inr rfl) Tryz.underlying257 Tryz.underlying3 rfl HI.out rfl ?_;intro w2 hm2 _ ht2;replace HI:=h! hm2;replace HTU:=h! (HTU.out.trans ht2);clear hm2 ht2)
 have HP:Hid (fH=mput (mput (mput (mput (mput (mput (mput (mput (mput (mput (mput (mput (mput [] 3 (.func (.func 196) #[] #[])) 4 (.func (.func 197) #[] #[])) 5 (.func (.func 198) #[] #[])) 6 (.func (.func 199) #[] #[])) 7 (.func (.func 200) #[] #[])) 8 (.func (.func 201) #[] #[])) 9 (.func (.func 202) #[] #[])) 10 (.func (.func 203) #[] #[])) 11 (.func (.func 204) #[] #[])) 12 (.func (.func 205) #[] #[])) 13 (.func (.func 206) #[] #[])) 14 (.func (.func 207) #[] #[])) 15 (.func (.func 208) #[] #[])):=h! (by kernel_rfl)
 go_ret
 refine ⟨w.heap.size,rfl, ?_, ?_⟩
 ·rw [HP.out];exact HI.out
 exact ((Below.refl _ _).alloc (aB _) _).trans (HTU.out.below (by simp) (by simp))
theorem iB (w:World):(zeroValue 256).run Tryz.prog w = .ok .nilFunc w:=by kernel_rfl
def TwoR (op a b:Int) (w:World) (e:Ending) (w' : World):Prop:=e = .returned (.tuple #[.int .i64 (iV op a b),.int .i64 0])/\Below w.heap.size w w'
theorem aH7 {w:World} (a b:Int):Calls Tryz.prog 192 #[.int .i64 3,.int .i64 a,.int .i64 b] w (TwoR 3 a b w):=by
 have eg1:∀ (args:Array Value) (w:World),(callFunc 196 args).run Tryz.prog w = .ok (.enter 196 args) w:=enters_of Tryz.func196 (by kernel_rfl) rfl
 cases hb0:(b == 0)
 ·go_enter Tryz.func192,Tryz.ntmps192
  go_wp2_with fail
  clear hb0
  refine iA.mono ?_
  rintro e w1 ⟨bm,rfl,hI,hb⟩
  have HI:=h! hI
  have HW:=h! hb
  have HG:Hid ((mget fH 3).getD .nilFunc = .func (.func 196) #[] #[]):=h! (by kernel_rfl)
  clear hI hb
  have HC:=h! (aA0 (w:=w1) a b)
  go_wp2_with (first | (at_lookup;refine d9 (q:=.i64) (z:=.nilFunc) (b:=bm) (mm:=fH) (y:=3) rfl _ _ _ rfl Tryz.underlying257 Tryz.underlying3 (iB _) rfl HI.out rfl ?_;rw [HG.out]) | (go_at_fn 196;refine HC.out.mono ?_;rintro e w4 ⟨rfl,hb4⟩;have HB4:=h! hb4;clear hb4))
  go_ret2
  exact ⟨rfl,HW.out.trans (HB4.out.mono HW.out.size)⟩
 go_enter Tryz.func192,Tryz.ntmps192
 go_wp2_with fail
 clear hb0
 refine iA.mono ?_
 rintro e w1 ⟨bm,rfl,hI,hb⟩
 have HI:=h! hI
 have HW:=h! hb
 have HG:Hid ((mget fH 3).getD .nilFunc = .func (.func 196) #[] #[]):=h! (by kernel_rfl)
 clear hI hb
 have HC:=h! (aA0 (w:=w1) a b)
 go_wp2_with (first | (at_lookup;refine d9 (q:=.i64) (z:=.nilFunc) (b:=bm) (mm:=fH) (y:=3) rfl _ _ _ rfl Tryz.underlying257 Tryz.underlying3 (iB _) rfl HI.out rfl ?_;rw [HG.out]) | (go_at_fn 196;refine HC.out.mono ?_;rintro e w4 ⟨rfl,hb4⟩;have HB4:=h! hb4;clear hb4))
 go_ret2
 exact ⟨rfl,HW.out.trans (HB4.out.mono HW.out.size)⟩
theorem aH8 {w:World} (a b:Int):Calls Tryz.prog 192 #[.int .i64 4,.int .i64 a,.int .i64 b] w (TwoR 4 a b w):=by
 have eg1:∀ (args:Array Value) (w:World),(callFunc 197 args).run Tryz.prog w = .ok (.enter 197 args) w:=enters_of Tryz.func197 (by kernel_rfl) rfl
 cases hb0:(b == 0)
 ·go_enter Tryz.func192,Tryz.ntmps192
  go_wp2_with fail
  clear hb0
  refine iA.mono ?_
  rintro e w1 ⟨bm,rfl,hI,hb⟩
  have HI:=h! hI
  have HW:=h! hb
  have HG:Hid ((mget fH 4).getD .nilFunc = .func (.func 197) #[] #[]):=h! (by kernel_rfl)
  clear hI hb
  have HC:=h! (aA1 (w:=w1) a b)
  go_wp2_with (first | (at_lookup;refine d9 (q:=.i64) (z:=.nilFunc) (b:=bm) (mm:=fH) (y:=4) rfl _ _ _ rfl Tryz.underlying257 Tryz.underlying3 (iB _) rfl HI.out rfl ?_;rw [HG.out]) | (go_at_fn 197;refine HC.out.mono ?_;rintro e w4 ⟨rfl,hb4⟩;have HB4:=h! hb4;clear hb4))
  go_ret2
  exact ⟨rfl,HW.out.trans (HB4.out.mono HW.out.size)⟩
 go_enter Tryz.func192,Tryz.ntmps192
 go_wp2_with fail
 clear hb0
 refine iA.mono ?_
 rintro e w1 ⟨bm,rfl,hI,hb⟩
 have HI:=h! hI
 have HW:=h! hb
 have HG:Hid ((mget fH 4).getD .nilFunc = .func (.func 197) #[] #[]):=h! (by kernel_rfl)
 clear hI hb
 have HC:=h! (aA1 (w:=w1) a b)
 go_wp2_with (first | (at_lookup;refine d9 (q:=.i64) (z:=.nilFunc) (b:=bm) (mm:=fH) (y:=4) rfl _ _ _ rfl Tryz.underlying257 Tryz.underlying3 (iB _) rfl HI.out rfl ?_;rw [HG.out]) | (go_at_fn 197;refine HC.out.mono ?_;rintro e w4 ⟨rfl,hb4⟩;have HB4:=h! hb4;clear hb4))
 go_ret2
 exact ⟨rfl,HW.out.trans (HB4.out.mono HW.out.size)⟩
theorem aH9 {w:World} (a b:Int):Calls Tryz.prog 192 #[.int .i64 5,.int .i64 a,.int .i64 b] w (TwoR 5 a b w):=by
 have eg1:∀ (args:Array Value) (w:World),(callFunc 198 args).run Tryz.prog w = .ok (.enter 198 args) w:=enters_of Tryz.func198 (by kernel_rfl) rfl
 cases hb0:(b == 0)
 ·go_enter Tryz.func192,Tryz.ntmps192
  go_wp2_with fail
  clear hb0
  refine iA.mono ?_
  rintro e w1 ⟨bm,rfl,hI,hb⟩
  have HI:=h! hI
  have HW:=h! hb
  have HG:Hid ((mget fH 5).getD .nilFunc = .func (.func 198) #[] #[]):=h! (by kernel_rfl)
  clear hI hb
  have HC:=h! (aA2 (w:=w1) a b)
  go_wp2_with (first | (at_lookup;refine d9 (q:=.i64) (z:=.nilFunc) (b:=bm) (mm:=fH) (y:=5) rfl _ _ _ rfl Tryz.underlying257 Tryz.underlying3 (iB _) rfl HI.out rfl ?_;rw [HG.out]) | (go_at_fn 198;refine HC.out.mono ?_;rintro e w4 ⟨rfl,hb4⟩;have HB4:=h! hb4;clear hb4))
  go_ret2
  exact ⟨rfl,HW.out.trans (HB4.out.mono HW.out.size)⟩
 go_enter Tryz.func192,Tryz.ntmps192
 go_wp2_with fail
 clear hb0
 refine iA.mono ?_
 rintro e w1 ⟨bm,rfl,hI,hb⟩
 have HI:=h! hI
 have HW:=h! hb
 have HG:Hid ((mget fH 5).getD .nilFunc = .func (.func 198) #[] #[]):=h! (by kernel_rfl)
 clear hI hb
 have HC:=h! (aA2 (w:=w1) a b)
 go_wp2_with (first | (at_lookup;refine d9 (q:=.i64) (z:=.nilFunc) (b:=bm) (mm:=fH) (y:=5) rfl _ _ _ rfl Tryz.underlying257 Tryz.underlying3 (iB _) rfl HI.out rfl ?_;rw [HG.out]) | (go_at_fn 198;refine HC.out.mono ?_;rintro e w4 ⟨rfl,hb4⟩;have HB4:=h! hb4;clear hb4))
 go_ret2
 exact ⟨rfl,HW.out.trans (HB4.out.mono HW.out.size)⟩
theorem aIA {w:World} (a b:Int):Calls Tryz.prog 192 #[.int .i64 6,.int .i64 a,.int .i64 b] w (TwoR 6 a b w):=by
 have eg1:∀ (args:Array Value) (w:World),(callFunc 199 args).run Tryz.prog w = .ok (.enter 199 args) w:=enters_of Tryz.func199 (by kernel_rfl) rfl
 cases hb0:(b == 0)
 ·go_enter Tryz.func192,Tryz.ntmps192
  go_wp2_with fail
  clear hb0
  refine iA.mono ?_
  rintro e w1 ⟨bm,rfl,hI,hb⟩
  have HI:=h! hI
  have HW:=h! hb
  have HG:Hid ((mget fH 6).getD .nilFunc = .func (.func 199) #[] #[]):=h! (by kernel_rfl)
  clear hI hb
  have HC:=h! (aA3 (w:=w1) a b)
  go_wp2_with (first | (at_lookup;refine d9 (q:=.i64) (z:=.nilFunc) (b:=bm) (mm:=fH) (y:=6) rfl _ _ _ rfl Tryz.underlying257 Tryz.underlying3 (iB _) rfl HI.out rfl ?_;rw [HG.out]) | (go_at_fn 199;refine HC.out.mono ?_;rintro e w4 ⟨rfl,hb4⟩;have HB4:=h! hb4;clear hb4))
  go_ret2
  exact ⟨rfl,HW.out.trans (HB4.out.mono HW.out.size)⟩
 go_enter Tryz.func192,Tryz.ntmps192
 go_wp2_with fail
 clear hb0
 refine iA.mono ?_
 rintro e w1 ⟨bm,rfl,hI,hb⟩
 have HI:=h! hI
 have HW:=h! hb
 have HG:Hid ((mget fH 6).getD .nilFunc = .func (.func 199) #[] #[]):=h! (by kernel_rfl)
 clear hI hb
 have HC:=h! (aA3 (w:=w1) a b)
 go_wp2_with (first | (at_lookup;refine d9 (q:=.i64) (z:=.nilFunc) (b:=bm) (mm:=fH) (y:=6) rfl _ _ _ rfl Tryz.underlying257 Tryz.underlying3 (iB _) rfl HI.out rfl ?_;rw [HG.out]) | (go_at_fn 199;refine HC.out.mono ?_;rintro e w4 ⟨rfl,hb4⟩;have HB4:=h! hb4;clear hb4))
 go_ret2
 exact ⟨rfl,HW.out.trans (HB4.out.mono HW.out.size)⟩
theorem aIZ {w:World} (a b:Int):Calls Tryz.prog 192 #[.int .i64 7,.int .i64 a,.int .i64 b] w (TwoR 7 a b w):=by
 have eg1:∀ (args:Array Value) (w:World),(callFunc 200 args).run Tryz.prog w = .ok (.enter 200 args) w:=enters_of Tryz.func200 (by kernel_rfl) rfl
 cases hb0:(b == 0)
 ·go_enter Tryz.func192,Tryz.ntmps192
  go_wp2_with fail
  clear hb0
  refine iA.mono ?_
  rintro e w1 ⟨bm,rfl,hI,hb⟩
  have HI:=h! hI
  have HW:=h! hb
  have HG:Hid ((mget fH 7).getD .nilFunc = .func (.func 200) #[] #[]):=h! (by kernel_rfl)
  clear hI hb
  have HC:=h! (aEO (w:=w1) a b)
  go_wp2_with (first | (at_lookup;refine d9 (q:=.i64) (z:=.nilFunc) (b:=bm) (mm:=fH) (y:=7) rfl _ _ _ rfl Tryz.underlying257 Tryz.underlying3 (iB _) rfl HI.out rfl ?_;rw [HG.out]) | (go_at_fn 200;refine HC.out.mono ?_;rintro e w4 ⟨rfl,hb4⟩;have HB4:=h! hb4;clear hb4))
  go_ret2
  exact ⟨rfl,HW.out.trans (HB4.out.mono HW.out.size)⟩
 go_enter Tryz.func192,Tryz.ntmps192
 go_wp2_with fail
 clear hb0
 refine iA.mono ?_
 rintro e w1 ⟨bm,rfl,hI,hb⟩
 have HI:=h! hI
 have HW:=h! hb
 have HG:Hid ((mget fH 7).getD .nilFunc = .func (.func 200) #[] #[]):=h! (by kernel_rfl)
 clear hI hb
 have HC:=h! (aEO (w:=w1) a b)
 go_wp2_with (first | (at_lookup;refine d9 (q:=.i64) (z:=.nilFunc) (b:=bm) (mm:=fH) (y:=7) rfl _ _ _ rfl Tryz.underlying257 Tryz.underlying3 (iB _) rfl HI.out rfl ?_;rw [HG.out]) | (go_at_fn 200;refine HC.out.mono ?_;rintro e w4 ⟨rfl,hb4⟩;have HB4:=h! hb4;clear hb4))
 go_ret2
 exact ⟨rfl,HW.out.trans (HB4.out.mono HW.out.size)⟩
theorem aIB {w:World} (a b:Int):Calls Tryz.prog 192 #[.int .i64 8,.int .i64 a,.int .i64 b] w (TwoR 8 a b w):=by
 have eg1:∀ (args:Array Value) (w:World),(callFunc 201 args).run Tryz.prog w = .ok (.enter 201 args) w:=enters_of Tryz.func201 (by kernel_rfl) rfl
 cases hb0:(b == 0)
 ·go_enter Tryz.func192,Tryz.ntmps192
  go_wp2_with fail
  clear hb0
  refine iA.mono ?_
  rintro e w1 ⟨bm,rfl,hI,hb⟩
  have HI:=h! hI
  have HW:=h! hb
  have HG:Hid ((mget fH 8).getD .nilFunc = .func (.func 201) #[] #[]):=h! (by kernel_rfl)
  clear hI hb
  have HC:=h! (aA4 (w:=w1) a b)
  go_wp2_with (first | (at_lookup;refine d9 (q:=.i64) (z:=.nilFunc) (b:=bm) (mm:=fH) (y:=8) rfl _ _ _ rfl Tryz.underlying257 Tryz.underlying3 (iB _) rfl HI.out rfl ?_;rw [HG.out]) | (go_at_fn 201;refine HC.out.mono ?_;rintro e w4 ⟨rfl,hb4⟩;have HB4:=h! hb4;clear hb4))
  go_ret2
  exact ⟨rfl,HW.out.trans (HB4.out.mono HW.out.size)⟩
 go_enter Tryz.func192,Tryz.ntmps192
 go_wp2_with fail
 clear hb0
 refine iA.mono ?_
 rintro e w1 ⟨bm,rfl,hI,hb⟩
 have HI:=h! hI
 have HW:=h! hb
 have HG:Hid ((mget fH 8).getD .nilFunc = .func (.func 201) #[] #[]):=h! (by kernel_rfl)
 clear hI hb
 have HC:=h! (aA4 (w:=w1) a b)
 go_wp2_with (first | (at_lookup;refine d9 (q:=.i64) (z:=.nilFunc) (b:=bm) (mm:=fH) (y:=8) rfl _ _ _ rfl Tryz.underlying257 Tryz.underlying3 (iB _) rfl HI.out rfl ?_;rw [HG.out]) | (go_at_fn 201;refine HC.out.mono ?_;rintro e w4 ⟨rfl,hb4⟩;have HB4:=h! hb4;clear hb4))
 go_ret2
 exact ⟨rfl,HW.out.trans (HB4.out.mono HW.out.size)⟩
theorem aIC {w:World} (a b:Int):Calls Tryz.prog 192 #[.int .i64 9,.int .i64 a,.int .i64 b] w (TwoR 9 a b w):=by
 have eg1:∀ (args:Array Value) (w:World),(callFunc 202 args).run Tryz.prog w = .ok (.enter 202 args) w:=enters_of Tryz.func202 (by kernel_rfl) rfl
 cases hb0:(b == 0)
 ·go_enter Tryz.func192,Tryz.ntmps192
  go_wp2_with fail
  clear hb0
  refine iA.mono ?_
  rintro e w1 ⟨bm,rfl,hI,hb⟩
  have HI:=h! hI
  have HW:=h! hb
  have HG:Hid ((mget fH 9).getD .nilFunc = .func (.func 202) #[] #[]):=h! (by kernel_rfl)
  clear hI hb
  have HC:=h! (aA5 (w:=w1) a b)
  go_wp2_with (first | (at_lookup;refine d9 (q:=.i64) (z:=.nilFunc) (b:=bm) (mm:=fH) (y:=9) rfl _ _ _ rfl Tryz.underlying257 Tryz.underlying3 (iB _) rfl HI.out rfl ?_;rw [HG.out]) | (go_at_fn 202;refine HC.out.mono ?_;rintro e w4 ⟨rfl,hb4⟩;have HB4:=h! hb4;clear hb4))
  go_ret2
  exact ⟨rfl,HW.out.trans (HB4.out.mono HW.out.size)⟩
 go_enter Tryz.func192,Tryz.ntmps192
 go_wp2_with fail
 clear hb0
 refine iA.mono ?_
 rintro e w1 ⟨bm,rfl,hI,hb⟩
 have HI:=h! hI
 have HW:=h! hb
 have HG:Hid ((mget fH 9).getD .nilFunc = .func (.func 202) #[] #[]):=h! (by kernel_rfl)
 clear hI hb
 have HC:=h! (aA5 (w:=w1) a b)
 go_wp2_with (first | (at_lookup;refine d9 (q:=.i64) (z:=.nilFunc) (b:=bm) (mm:=fH) (y:=9) rfl _ _ _ rfl Tryz.underlying257 Tryz.underlying3 (iB _) rfl HI.out rfl ?_;rw [HG.out]) | (go_at_fn 202;refine HC.out.mono ?_;rintro e w4 ⟨rfl,hb4⟩;have HB4:=h! hb4;clear hb4))
 go_ret2
 exact ⟨rfl,HW.out.trans (HB4.out.mono HW.out.size)⟩
theorem aID {w:World} (a b:Int):Calls Tryz.prog 192 #[.int .i64 10,.int .i64 a,.int .i64 b] w (TwoR 10 a b w):=by
 have eg1:∀ (args:Array Value) (w:World),(callFunc 203 args).run Tryz.prog w = .ok (.enter 203 args) w:=enters_of Tryz.func203 (by kernel_rfl) rfl
 cases hb0:(b == 0)
 ·go_enter Tryz.func192,Tryz.ntmps192
  go_wp2_with fail
  clear hb0
  refine iA.mono ?_
  rintro e w1 ⟨bm,rfl,hI,hb⟩
  have HI:=h! hI
  have HW:=h! hb
  have HG:Hid ((mget fH 10).getD .nilFunc = .func (.func 203) #[] #[]):=h! (by kernel_rfl)
  clear hI hb
  have HC:=h! (aA6 (w:=w1) a b)
  go_wp2_with (first | (at_lookup;refine d9 (q:=.i64) (z:=.nilFunc) (b:=bm) (mm:=fH) (y:=10) rfl _ _ _ rfl Tryz.underlying257 Tryz.underlying3 (iB _) rfl HI.out rfl ?_;rw [HG.out]) | (go_at_fn 203;refine HC.out.mono ?_;rintro e w4 ⟨rfl,hb4⟩;have HB4:=h! hb4;clear hb4))
  go_ret2
  exact ⟨rfl,HW.out.trans (HB4.out.mono HW.out.size)⟩
 go_enter Tryz.func192,Tryz.ntmps192
 go_wp2_with fail
 clear hb0
 refine iA.mono ?_
 rintro e w1 ⟨bm,rfl,hI,hb⟩
 have HI:=h! hI
 have HW:=h! hb
 have HG:Hid ((mget fH 10).getD .nilFunc = .func (.func 203) #[] #[]):=h! (by kernel_rfl)
 clear hI hb
 have HC:=h! (aA6 (w:=w1) a b)
 go_wp2_with (first | (at_lookup;refine d9 (q:=.i64) (z:=.nilFunc) (b:=bm) (mm:=fH) (y:=10) rfl _ _ _ rfl Tryz.underlying257 Tryz.underlying3 (iB _) rfl HI.out rfl ?_;rw [HG.out]) | (go_at_fn 203;refine HC.out.mono ?_;rintro e w4 ⟨rfl,hb4⟩;have HB4:=h! hb4;clear hb4))
 go_ret2
 exact ⟨rfl,HW.out.trans (HB4.out.mono HW.out.size)⟩
theorem aI0 {w:World} (a b:Int):Calls Tryz.prog 192 #[.int .i64 13,.int .i64 a,.int .i64 b] w (TwoR 13 a b w):=by
 have eg1:∀ (args:Array Value) (w:World),(callFunc 206 args).run Tryz.prog w = .ok (.enter 206 args) w:=enters_of Tryz.func206 (by kernel_rfl) rfl
 cases hb0:(b == 0)
 ·go_enter Tryz.func192,Tryz.ntmps192
  go_wp2_with fail
  clear hb0
  refine iA.mono ?_
  rintro e w1 ⟨bm,rfl,hI,hb⟩
  have HI:=h! hI
  have HW:=h! hb
  have HG:Hid ((mget fH 13).getD .nilFunc = .func (.func 206) #[] #[]):=h! (by kernel_rfl)
  clear hI hb
  have HC:=h! (aEP (w:=w1) a b)
  go_wp2_with (first | (at_lookup;refine d9 (q:=.i64) (z:=.nilFunc) (b:=bm) (mm:=fH) (y:=13) rfl _ _ _ rfl Tryz.underlying257 Tryz.underlying3 (iB _) rfl HI.out rfl ?_;rw [HG.out]) | (go_at_fn 206;refine HC.out.mono ?_;rintro e w4 ⟨rfl,hb4⟩;have HB4:=h! hb4;clear hb4))
  go_ret2
  exact ⟨rfl,HW.out.trans (HB4.out.mono HW.out.size)⟩
 go_enter Tryz.func192,Tryz.ntmps192
 go_wp2_with fail
 clear hb0
 refine iA.mono ?_
 rintro e w1 ⟨bm,rfl,hI,hb⟩
 have HI:=h! hI
 have HW:=h! hb
 have HG:Hid ((mget fH 13).getD .nilFunc = .func (.func 206) #[] #[]):=h! (by kernel_rfl)
 clear hI hb
 have HC:=h! (aEP (w:=w1) a b)
 go_wp2_with (first | (at_lookup;refine d9 (q:=.i64) (z:=.nilFunc) (b:=bm) (mm:=fH) (y:=13) rfl _ _ _ rfl Tryz.underlying257 Tryz.underlying3 (iB _) rfl HI.out rfl ?_;rw [HG.out]) | (go_at_fn 206;refine HC.out.mono ?_;rintro e w4 ⟨rfl,hb4⟩;have HB4:=h! hb4;clear hb4))
 go_ret2
 exact ⟨rfl,HW.out.trans (HB4.out.mono HW.out.size)⟩
theorem aI1 {w:World} (a b:Int):Calls Tryz.prog 192 #[.int .i64 14,.int .i64 a,.int .i64 b] w (TwoR 14 a b w):=by
 have eg1:∀ (args:Array Value) (w:World),(callFunc 207 args).run Tryz.prog w = .ok (.enter 207 args) w:=enters_of Tryz.func207 (by kernel_rfl) rfl
 cases hb0:(b == 0)
 ·go_enter Tryz.func192,Tryz.ntmps192
  go_wp2_with fail
  clear hb0
  refine iA.mono ?_
  rintro e w1 ⟨bm,rfl,hI,hb⟩
  have HI:=h! hI
  have HW:=h! hb
  have HG:Hid ((mget fH 14).getD .nilFunc = .func (.func 207) #[] #[]):=h! (by kernel_rfl)
  clear hI hb
  have HC:=h! (aEQ (w:=w1) a b)
  go_wp2_with (first | (at_lookup;refine d9 (q:=.i64) (z:=.nilFunc) (b:=bm) (mm:=fH) (y:=14) rfl _ _ _ rfl Tryz.underlying257 Tryz.underlying3 (iB _) rfl HI.out rfl ?_;rw [HG.out]) | (go_at_fn 207;refine HC.out.mono ?_;rintro e w4 ⟨rfl,hb4⟩;have HB4:=h! hb4;clear hb4))
  go_ret2
  exact ⟨rfl,HW.out.trans (HB4.out.mono HW.out.size)⟩
 go_enter Tryz.func192,Tryz.ntmps192
 go_wp2_with fail
 clear hb0
 refine iA.mono ?_
 rintro e w1 ⟨bm,rfl,hI,hb⟩
 have HI:=h! hI
 have HW:=h! hb
 have HG:Hid ((mget fH 14).getD .nilFunc = .func (.func 207) #[] #[]):=h! (by kernel_rfl)
 clear hI hb
 have HC:=h! (aEQ (w:=w1) a b)
 go_wp2_with (first | (at_lookup;refine d9 (q:=.i64) (z:=.nilFunc) (b:=bm) (mm:=fH) (y:=14) rfl _ _ _ rfl Tryz.underlying257 Tryz.underlying3 (iB _) rfl HI.out rfl ?_;rw [HG.out]) | (go_at_fn 207;refine HC.out.mono ?_;rintro e w4 ⟨rfl,hb4⟩;have HB4:=h! hb4;clear hb4))
 go_ret2
 exact ⟨rfl,HW.out.trans (HB4.out.mono HW.out.size)⟩
theorem aD5 {w:World} (a b:Int):Calls Tryz.prog 192 #[.int .i64 15,.int .i64 a,.int .i64 b] w (TwoR 15 a b w):=by
 have eg1:∀ (args:Array Value) (w:World),(callFunc 208 args).run Tryz.prog w = .ok (.enter 208 args) w:=enters_of Tryz.func208 (by kernel_rfl) rfl
 cases hb0:(b == 0)
 ·go_enter Tryz.func192,Tryz.ntmps192
  go_wp2_with fail
  clear hb0
  refine iA.mono ?_
  rintro e w1 ⟨bm,rfl,hI,hb⟩
  have HI:=h! hI
  have HW:=h! hb
  have HG:Hid ((mget fH 15).getD .nilFunc = .func (.func 208) #[] #[]):=h! (by kernel_rfl)
  clear hI hb
  have HC:=h! (sM (w:=w1) a b)
  go_wp2_with (first | (at_lookup;refine d9 (q:=.i64) (z:=.nilFunc) (b:=bm) (mm:=fH) (y:=15) rfl _ _ _ rfl Tryz.underlying257 Tryz.underlying3 (iB _) rfl HI.out rfl ?_;rw [HG.out]) | (go_at_fn 208;refine HC.out.mono ?_;rintro e w4 ⟨rfl,hb4⟩;have HB4:=h! hb4;clear hb4))
  go_ret2
  exact ⟨rfl,HW.out.trans (HB4.out.mono HW.out.size)⟩
 go_enter Tryz.func192,Tryz.ntmps192
 go_wp2_with fail
 clear hb0
 refine iA.mono ?_
 rintro e w1 ⟨bm,rfl,hI,hb⟩
 have HI:=h! hI
 have HW:=h! hb
 have HG:Hid ((mget fH 15).getD .nilFunc = .func (.func 208) #[] #[]):=h! (by kernel_rfl)
 clear hI hb
 have HC:=h! (sM (w:=w1) a b)
 go_wp2_with (first | (at_lookup;refine d9 (q:=.i64) (z:=.nilFunc) (b:=bm) (mm:=fH) (y:=15) rfl _ _ _ rfl Tryz.underlying257 Tryz.underlying3 (iB _) rfl HI.out rfl ?_;rw [HG.out]) | (go_at_fn 208;refine HC.out.mono ?_;rintro e w4 ⟨rfl,hb4⟩;have HB4:=h! hb4;clear hb4))
 go_ret2
 exact ⟨rfl,HW.out.trans (HB4.out.mono HW.out.size)⟩
theorem aIE {w:World} (a b:Int) (hb:¬ b=0):Calls Tryz.prog 192 #[.int .i64 11,.int .i64 a,.int .i64 b] w (TwoR 11 a b w):=by
 have eg1:∀ (args:Array Value) (w:World),(callFunc 204 args).run Tryz.prog w = .ok (.enter 204 args) w:=enters_of Tryz.func204 (by kernel_rfl) rfl
 have hb0:(b == 0)=false:=by simpa using hb
 have HB:=h! hb
 clear hb
 go_enter Tryz.func192,Tryz.ntmps192
 go_wp2_with fail
 clear hb0
 refine iA.mono ?_
 rintro e w1 ⟨bm,rfl,hI,hb⟩
 have HI:=h! hI
 have HW:=h! hb
 have HG:Hid ((mget fH 11).getD .nilFunc = .func (.func 204) #[] #[]):=h! (by kernel_rfl)
 clear hI hb
 have HC:=h! (aFV (w:=w1) a b HB.out)
 go_wp2_with (first | (at_lookup;refine d9 (q:=.i64) (z:=.nilFunc) (b:=bm) (mm:=fH) (y:=11) rfl _ _ _ rfl Tryz.underlying257 Tryz.underlying3 (iB _) rfl HI.out rfl ?_;rw [HG.out]) | (go_at_fn 204;refine HC.out.mono ?_;rintro e w4 ⟨rfl,hb4⟩;have HB4:=h! hb4;clear hb4))
 go_ret2
 exact ⟨rfl,HW.out.trans (HB4.out.mono HW.out.size)⟩
theorem aGN {w:World} (a:Int):Calls Tryz.prog 192 #[.int .i64 11,.int .i64 a,.int .i64 0] w fun e w'=>e = .returned (.tuple #[.int .i64 0,.int .i64 9])/\Below w.heap.size w w':=by
 go_enter Tryz.func192,Tryz.ntmps192
 go_wp2
 go_ret2
 exact ⟨rfl,Below.refl _ _⟩
theorem aIF {w:World} (a b:Int) (hb:¬ b=0):Calls Tryz.prog 192 #[.int .i64 12,.int .i64 a,.int .i64 b] w (TwoR 12 a b w):=by
 have eg1:∀ (args:Array Value) (w:World),(callFunc 205 args).run Tryz.prog w = .ok (.enter 205 args) w:=enters_of Tryz.func205 (by kernel_rfl) rfl
 have hb0:(b == 0)=false:=by simpa using hb
 have HB:=h! hb
 clear hb
 go_enter Tryz.func192,Tryz.ntmps192
 go_wp2_with fail
 clear hb0
 refine iA.mono ?_
 rintro e w1 ⟨bm,rfl,hI,hb⟩
 have HI:=h! hI
 have HW:=h! hb
 have HG:Hid ((mget fH 12).getD .nilFunc = .func (.func 205) #[] #[]):=h! (by kernel_rfl)
 clear hI hb
 have HC:=h! (aFW (w:=w1) a b HB.out)
 go_wp2_with (first | (at_lookup;refine d9 (q:=.i64) (z:=.nilFunc) (b:=bm) (mm:=fH) (y:=12) rfl _ _ _ rfl Tryz.underlying257 Tryz.underlying3 (iB _) rfl HI.out rfl ?_;rw [HG.out]) | (go_at_fn 205;refine HC.out.mono ?_;rintro e w4 ⟨rfl,hb4⟩;have HB4:=h! hb4;clear hb4))
 go_ret2
 exact ⟨rfl,HW.out.trans (HB4.out.mono HW.out.size)⟩
theorem aGO {w:World} (a:Int):Calls Tryz.prog 192 #[.int .i64 12,.int .i64 a,.int .i64 0] w fun e w'=>e = .returned (.tuple #[.int .i64 0,.int .i64 9])/\Below w.heap.size w w':=by
 go_enter Tryz.func192,Tryz.ntmps192
 go_wp2
 go_ret2
 exact ⟨rfl,Below.refl _ _⟩
def twoV (op a b:Int):Int:=if (op=11 \/ op=12)/\b=0 then 0 else iV op a b
def twoE (op b:Int):Int:=if (op=11 \/ op=12)/\b=0 then 9 else 0
theorem twoC {w:World} (op a b:Int) (h:3 <= op/\op <= 15):Calls Tryz.prog 192 #[.int .i64 op,.int .i64 a,.int .i64 b] w fun e w'=>e = .returned (.tuple #[.int .i64 (twoV op a b),.int .i64 (twoE op b)])/\Below w.heap.size w w':=by
 have hop:op=3 \/ op=4 \/ op=5 \/ op=6 \/ op=7 \/ op=8 \/ op=9 \/ op=10 \/ op=11 \/ op=12 \/ op=13 \/ op=14 \/ op=15:=by omega
 have key:∀ op, ¬ ((op=11 \/ op=12)/\b=0) -> twoV op a b=iV op a b/\twoE op b=0:=fun op h=>⟨by unfold twoV;rw [if_neg h],by unfold twoE;rw [if_neg h]⟩
 have key0:∀ op,((op=11 \/ op=12)/\b=0) -> twoV op a b=0/\twoE op b=9:=fun op h=>⟨by unfold twoV;rw [if_pos h],by unfold twoE;rw [if_pos h]⟩
 rcases hop with rfl | rfl | rfl | rfl | rfl | rfl | rfl | rfl | rfl | rfl | rfl | rfl | rfl
 ·rw [(key 3 (by omega)).1,(key 3 (by omega)).2];exact aH7 a b
 ·rw [(key 4 (by omega)).1,(key 4 (by omega)).2];exact aH8 a b
 ·rw [(key 5 (by omega)).1,(key 5 (by omega)).2];exact aH9 a b
 ·rw [(key 6 (by omega)).1,(key 6 (by omega)).2];exact aIA a b
 ·rw [(key 7 (by omega)).1,(key 7 (by omega)).2];exact aIZ a b
 ·rw [(key 8 (by omega)).1,(key 8 (by omega)).2];exact aIB a b
 ·rw [(key 9 (by omega)).1,(key 9 (by omega)).2];exact aIC a b
 ·rw [(key 10 (by omega)).1,(key 10 (by omega)).2];exact aID a b
 ·by_cases hb:b=0
  ·rw [(key0 11 ⟨by omega,hb⟩).1,(key0 11 ⟨by omega,hb⟩).2,hb];exact aGN a
  rw [(key 11 (by omega)).1,(key 11 (by omega)).2];exact aIE a b hb
 ·by_cases hb:b=0
  ·rw [(key0 12 ⟨by omega,hb⟩).1,(key0 12 ⟨by omega,hb⟩).2,hb];exact aGO a
  rw [(key 12 (by omega)).1,(key 12 (by omega)).2];exact aIF a b hb
 ·rw [(key 13 (by omega)).1,(key 13 (by omega)).2];exact aI0 a b
 ·rw [(key 14 (by omega)).1,(key 14 (by omega)).2];exact aI1 a b
 rw [(key 15 (by omega)).1,(key 15 (by omega)).2];exact aD5 a b
theorem iZ {W:World} {v:Value} {xs:List Int} (h:Ints W v xs) (hp:0 < xs.length):∃ (b o c:Nat),v = .slice (some ⟨b,o,none⟩) xs.length c/\b < W.heap.size /\ ∀ i,i < xs.length -> W.cell? ⟨b,o+i,none⟩=some (.int .i64 (xs.getD i 0)):=by
 obtain ⟨a,c,b,o,rfl,_,_,ha,hx⟩:=h.parts
 obtain ⟨rfl,hb⟩:=ha hp
 exact ⟨b,o,c,rfl,hb,hx⟩
def aI2 (op:Int) (xs:List Int) (w:World) (e:Ending) (w' : World):Prop:=e = .returned (.tuple #[.int .i64 (mA op xs),.int .i64 (nB op xs)])/\Below w.heap.size w w'
theorem nD {op:Int} {xs:List Int} (h:op < 3 \/ 17 < op \/ xs.length ≠ oD op):mA op xs=0/\nB op xs=1:=⟨by unfold mA;rw [if_pos h],by unfold nB;rw [if_pos h]⟩
theorem aI3 {w:World} {op:Int} {v:Value} {xs:List Int} (hv:Ints w v xs):Calls Tryz.prog 175 #[.int .i64 op,v] w (aI2 op xs w):=by
 obtain ⟨a0,c0,rfl⟩:=hv.form
 obtain ⟨n,hn⟩ : ∃ n,n=xs.length:=⟨_,rfl⟩
 have HX:=h! hv
 rw [<-hn] at HX ⊢
 have HN:=h! hn
 clear hv hn
 by_cases h16:op=16
 ·subst h16
  by_cases h1:n=1
  ·subst h1
   obtain ⟨b,o,c,he,hb,hc⟩:=iZ HX.out (by rw [<-HN.out];omega)
   rw [<-HN.out] at he
   cases he
   have hc0:=hc 0 (by rw [<-HN.out];omega)
   rw [cR] at hc0
   have HV:Hid (mA 16 xs=lP (xs.getD 0 0 == 0)/\nB 16 xs=0):=h! (by
    have h9:¬ ((16:Int) < 3 \/ (17:Int) < 16 \/ xs.length ≠ oD 16):=by rw [<-HN.out];simp [oD]
    unfold mA nB
    rw [if_neg h9,if_neg h9];simp)
   clear hc
   go_enter Tryz.func175,Tryz.ntmps175
   go_wp2_with fail
   refine (aAZ _).mono ?_
   rintro e w1 ⟨rfl,hb1⟩
   go_wp2
   go_ret2
   exact ⟨by rw [HV.out.1,HV.out.2];rfl,hb1⟩
  have HV:=h! (nD (op:=16) (xs:=xs) (by rw [<-HN.out];right;right;simpa [oD] using h1))
  have ht:(((n:Nat):Int) != 1)=true:=by simp;omega
  clear h1
  go_enter Tryz.func175,Tryz.ntmps175
  go_wp2
  go_ret2
  exact ⟨by rw [HV.out.1,HV.out.2];rfl,Below.refl _ _⟩
 by_cases h17:op=17
 ·subst h17
  by_cases h1:n=3
  ·subst h1
   obtain ⟨b,o,c,he,hb,hc⟩:=iZ HX.out (by rw [<-HN.out];omega)
   rw [<-HN.out] at he
   cases he
   have hc0:=hc 0 (by rw [<-HN.out];omega)
   have hc1:=hc 1 (by rw [<-HN.out];omega)
   have hc2:=hc 2 (by rw [<-HN.out];omega)
   rw [cR] at hc0
   have HV:Hid (mA 17 xs=(if xs.getD 0 0 ≠ 0 then xs.getD 1 0 else xs.getD 2 0)/\nB 17 xs=0):=h! (by
    have h9:¬ ((17:Int) < 3 \/ (17:Int) < 17 \/ xs.length ≠ oD 17):=by rw [<-HN.out];simp [oD]
    unfold mA nB
    rw [if_neg h9,if_neg h9];simp)
   clear hc
   generalize xs.getD 0 0=x0 at *
   generalize xs.getD 1 0=x1 at *
   generalize xs.getD 2 0=x2 at *
   cases hq:(x0 != 0)
   ·have hq0:x0=0:=by simpa using hq
    have HQ:Hid (¬ x0 ≠ 0):=h! (by simp [hq0])
    clear hq0
    go_enter Tryz.func175,Tryz.ntmps175
    go_wp2
    go_ret2
    exact ⟨by rw [HV.out.1,HV.out.2,if_neg HQ.out];rfl,Below.refl _ _⟩
   have HQ:Hid (x0 ≠ 0):=h! (by simpa using hq)
   go_enter Tryz.func175,Tryz.ntmps175
   go_wp2
   go_ret2
   exact ⟨by rw [HV.out.1,HV.out.2,if_pos HQ.out];rfl,Below.refl _ _⟩
  have HV:=h! (nD (op:=17) (xs:=xs) (by rw [<-HN.out];right;right;simpa [oD] using h1))
  have ht:(((n:Nat):Int) != 3)=true:=by simp;omega
  clear h1
  go_enter Tryz.func175,Tryz.ntmps175
  go_wp2
  go_ret2
  exact ⟨by rw [HV.out.1,HV.out.2];rfl,Below.refl _ _⟩
 have e16:(op == 16)=false:=by simpa using h16
 have e17:(op == 17)=false:=by simpa using h17
 have HW2:Hid (oD op=2):=h! (by unfold oD;rw [if_neg h16,if_neg h17])
 cases hl:decide (op < 3)
 rotate_left
 ·have HV:=h! (nD (op:=op) (xs:=xs) (.inl (by simpa using hl)))
  clear h16 h17
  go_enter Tryz.func175,Tryz.ntmps175
  go_wp2
  go_ret2
  exact ⟨by rw [HV.out.1,HV.out.2];rfl,Below.refl _ _⟩
 cases hg:decide (17 < op)
 rotate_left
 ·have HV:=h! (nD (op:=op) (xs:=xs) (.inr (.inl (by simpa using hg))))
  clear h16 h17
  go_enter Tryz.func175,Tryz.ntmps175
  go_wp2
  go_ret2
  exact ⟨by rw [HV.out.1,HV.out.2];rfl,Below.refl _ _⟩
 cases h2:((n:Int) != 2)
 rotate_left
 ·have HV:=h! (nD (op:=op) (xs:=xs) (.inr (.inr (by rw [HW2.out, <-HN.out];simp at h2;omega))))
  clear h16 h17
  go_enter Tryz.func175,Tryz.ntmps175
  go_wp2
  go_ret2
  exact ⟨by rw [HV.out.1,HV.out.2];rfl,Below.refl _ _⟩
 have hn2:n=2:=by simp at h2;omega
 subst hn2
 have HOP:Hid (3 <= op/\op <= 15):=h! (by simp at hl hg;omega)
 obtain ⟨b,o,c,he,hb,hc⟩:=iZ HX.out (by rw [<-HN.out];omega)
 rw [<-HN.out] at he
 cases he
 have hc0:=hc 0 (by rw [<-HN.out];omega)
 have hc1:=hc 1 (by rw [<-HN.out];omega)
 rw [cR] at hc0
 have HV:Hid (mA op xs=twoV op (xs.getD 0 0) (xs.getD 1 0)/\nB op xs=twoE op (xs.getD 1 0)):=h! (by
  have h9:¬ (op < 3 \/ 17 < op \/ xs.length ≠ oD op):=by rw [HW2.out, <-HN.out];have:=HOP.out;omega
  unfold mA nB twoV twoE
  rw [if_neg h9,if_neg h9,if_neg h16,if_neg h17,if_neg h16,if_neg h17]
  exact ⟨rfl,rfl⟩)
 obtain ⟨x,hx⟩ : ∃ x,x=xs.getD 0 0:=⟨_,rfl⟩
 obtain ⟨y,hy⟩ : ∃ y,y=xs.getD 1 0:=⟨_,rfl⟩
 rw [<-hx] at hc0 HV
 rw [<-hy] at hc1 HV
 have HC:Hid (∀ W,Below w.heap.size w W -> W.cell? ⟨b,o,none⟩=some (.int .i64 x)/\W.cell? ⟨b,o+1,none⟩=some (.int .i64 y)):=h! (fun W h=>⟨(h.cell (p:=⟨b,o,none⟩) hb).trans hc0,(h.cell (p:=⟨b,o+1,none⟩) hb).trans hc1⟩)
 have HW:=h! (Below.refl w.heap.size w)
 clear hc hc0 hc1 h16 h17 hx hy h2
 have h2' : ((2:Int) != 2)=false:=rfl
 go_enter Tryz.func175,Tryz.ntmps175
 go_upto_region 16 with (fail)
 refine wp_region_grow 12 (fun kz=>match kz with | 7=>.const (.tuple #[.int .i64 (twoV op x y),.int .i64 (twoE op y)]) | _=>.plain) (by kernel_rfl) (by kernel_rfl) ?_ (fun ν => ?_)
 ·(intro k;(try dsimp only);split <;> first | exact True.intro | (intro u w1 w2 hu hb;exact hu.below hb))
 simp only [aQ,aV,aR,aY]
 iterate 7 (refine Grow.val (v := ?_) rfl rfl (fun wg hbg hdg => ?_) ?_;rotate_left;(focus ((obtain ⟨g0,g1⟩:=HC.out wg hbg);clear hbg hdg;first | (go_simp;done) | (go_simp;with_reducible rfl)));simp only [Act.put,aA,aE,aF])
 refine Grow.call (f := ?_) (args := ?_) rfl (fun wg => ?_) (fun wg hbg hdg => ?_) ?_
 rotate_left 2
 focus (first | (go_simp;done) | (go_simp;refine And.intro ?_ ?_ <;> with_reducible rfl) | (go_simp;with_reducible rfl))
 focus exact Calls.mono ((twoC op x y HOP.out)) (fun e w2 ⟨he,hb2⟩=>⟨_,he,rfl,hb2⟩)
 simp only [Act.put,Known.val,aA,aE,aF]
 iterate 4 (refine Grow.val (v := ?_) rfl rfl (fun wg hbg hdg => ?_) ?_;rotate_left;(focus ((obtain ⟨g0,g1⟩:=HC.out wg hbg);clear hbg hdg;first | (go_simp;done) | (go_simp;with_reducible rfl)));simp only [Act.put,aA,aE,aF])
 intro wg hb hf hap
 clear hap
 replace HW:=h! (HW.out.trans (hb.mono HW.out.size))
 clear hb
 clear hf
 go_wp2
 go_ret2
 exact ⟨by rw [HV.out.1,HV.out.2];rfl,HW.out⟩
end Go.Proofs.YtgmhnepmkaonaaaGreat
