/- Part 33. -/
import Derived.Test.YtgmhnepmkaonaaaGreatPD32
namespace Go.Proofs.YtgmhnepmkaonaaaGreat
set_option maxHeartbeats 6400000
set_option linter.unusedSimpArgs false
set_option linter.unusedVariables false
open Go.RowKit
def pairsM:List (Int × Value):=[(3,.func (.func 196) #[] #[]),(4,.func (.func 197) #[] #[]),(5,.func (.func 198) #[] #[]),(6,.func (.func 199) #[] #[]),(7,.func (.func 200) #[] #[]),(8,.func (.func 201) #[] #[]),(9,.func (.func 202) #[] #[]),(10,.func (.func 203) #[] #[]),(11,.func (.func 204) #[] #[]),(12,.func (.func 205) #[] #[]),(13,.func (.func 206) #[] #[]),(14,.func (.func 207) #[] #[]),(15,.func (.func 208) #[] #[])]
def PairsR (w:World) (e:Ending) (w' : World):Prop := ∃ bm,e = .returned (.map (some bm))/\IMap w' bm pairsM/\Below w.heap.size w w'
theorem pairsC {w:World}:Calls Tryz.prog 195 #[] w (PairsR w):=by
 have hmm:=@run_makeMap Tryz.prog
 go_enter Tryz.func195,Tryz.ntmps195
 have HI:Hid (IMap (w.alloc (.map #[] 0)) w.heap.size []):=hd (IMap.new w)
 have HTU:Hid (Turn [w.heap.size] (w.alloc (.map #[] 0)) (w.alloc (.map #[] 0))):=hd (Turn.refl _ _)
 go_wp2_with (with_reducible refine wpList_put (q:=.i64) (b:=w.heap.size) rfl _ _ _ _ (.inr rfl) Tryz.underlying257 Tryz.underlying3 rfl HI.out rfl ?_;intro w2 hm2 _ ht2;replace HI:=hd hm2;replace HTU:=hd (HTU.out.trans ht2);clear hm2 ht2)
 have HP:Hid (pairsM=mput (mput (mput (mput (mput (mput (mput (mput (mput (mput (mput (mput (mput [] 3 (.func (.func 196) #[] #[])) 4 (.func (.func 197) #[] #[])) 5 (.func (.func 198) #[] #[])) 6 (.func (.func 199) #[] #[])) 7 (.func (.func 200) #[] #[])) 8 (.func (.func 201) #[] #[])) 9 (.func (.func 202) #[] #[])) 10 (.func (.func 203) #[] #[])) 11 (.func (.func 204) #[] #[])) 12 (.func (.func 205) #[] #[])) 13 (.func (.func 206) #[] #[])) 14 (.func (.func 207) #[] #[])) 15 (.func (.func 208) #[] #[])):=hd (by kernel_rfl)
 go_ret
 refine ⟨w.heap.size,rfl, ?_, ?_⟩
 ·rw [HP.out];exact HI.out
 ·exact ((Below.refl _ _).alloc (Nat.le_refl _) _).trans (HTU.out.below (by simp) (by simp))
theorem zeroFn (w:World):(zeroValue 256).run Tryz.prog w = .ok .nilFunc w:=by kernel_rfl
def TwoR (op a b:Int) (w:World) (e:Ending) (w' : World):Prop:=e = .returned (.tuple #[.int .i64 (calc2 op a b),.int .i64 0])/\Below w.heap.size w w'
theorem twoadd {w:World} (a b:Int):Calls Tryz.prog 192 #[.int .i64 3,.int .i64 a,.int .i64 b] w (TwoR 3 a b w):=by
 have eg1:∀ (args:Array Value) (w:World),(callFunc 196 args).run Tryz.prog w = .ok (.enter 196 args) w:=enters_of Tryz.func196 (by kernel_rfl) rfl
 cases hb0:(b == 0)
 ·go_enter Tryz.func192,Tryz.ntmps192
  go_wp2_with fail
  clear hb0
  refine pairsC.mono ?_
  rintro e w1 ⟨bm,rfl,hI,hb⟩
  have HI:=hd hI
  have HW:=hd hb
  have HG:Hid ((mget pairsM 3).getD .nilFunc = .func (.func 196) #[] #[]):=hd (by kernel_rfl)
  clear hI hb
  have HC:=hd (wordadd (w:=w1) a b)
  go_wp2_with (first | (at_lookup;refine wpList_look0 (q:=.i64) (z:=.nilFunc) (b:=bm) (mm:=pairsM) (y:=3) rfl _ _ _ rfl Tryz.underlying257 Tryz.underlying3 (zeroFn _) rfl HI.out rfl ?_;rw [HG.out]) | (go_at_fn 196;refine HC.out.mono ?_;rintro e w4 ⟨rfl,hb4⟩;have HB4:=hd hb4;clear hb4))
  go_ret2
  exact ⟨rfl,HW.out.trans (HB4.out.mono HW.out.size)⟩
 ·go_enter Tryz.func192,Tryz.ntmps192
  go_wp2_with fail
  clear hb0
  refine pairsC.mono ?_
  rintro e w1 ⟨bm,rfl,hI,hb⟩
  have HI:=hd hI
  have HW:=hd hb
  have HG:Hid ((mget pairsM 3).getD .nilFunc = .func (.func 196) #[] #[]):=hd (by kernel_rfl)
  clear hI hb
  have HC:=hd (wordadd (w:=w1) a b)
  go_wp2_with (first | (at_lookup;refine wpList_look0 (q:=.i64) (z:=.nilFunc) (b:=bm) (mm:=pairsM) (y:=3) rfl _ _ _ rfl Tryz.underlying257 Tryz.underlying3 (zeroFn _) rfl HI.out rfl ?_;rw [HG.out]) | (go_at_fn 196;refine HC.out.mono ?_;rintro e w4 ⟨rfl,hb4⟩;have HB4:=hd hb4;clear hb4))
  go_ret2
  exact ⟨rfl,HW.out.trans (HB4.out.mono HW.out.size)⟩
theorem twosub {w:World} (a b:Int):Calls Tryz.prog 192 #[.int .i64 4,.int .i64 a,.int .i64 b] w (TwoR 4 a b w):=by
 have eg1:∀ (args:Array Value) (w:World),(callFunc 197 args).run Tryz.prog w = .ok (.enter 197 args) w:=enters_of Tryz.func197 (by kernel_rfl) rfl
 cases hb0:(b == 0)
 ·go_enter Tryz.func192,Tryz.ntmps192
  go_wp2_with fail
  clear hb0
  refine pairsC.mono ?_
  rintro e w1 ⟨bm,rfl,hI,hb⟩
  have HI:=hd hI
  have HW:=hd hb
  have HG:Hid ((mget pairsM 4).getD .nilFunc = .func (.func 197) #[] #[]):=hd (by kernel_rfl)
  clear hI hb
  have HC:=hd (wordsub (w:=w1) a b)
  go_wp2_with (first | (at_lookup;refine wpList_look0 (q:=.i64) (z:=.nilFunc) (b:=bm) (mm:=pairsM) (y:=4) rfl _ _ _ rfl Tryz.underlying257 Tryz.underlying3 (zeroFn _) rfl HI.out rfl ?_;rw [HG.out]) | (go_at_fn 197;refine HC.out.mono ?_;rintro e w4 ⟨rfl,hb4⟩;have HB4:=hd hb4;clear hb4))
  go_ret2
  exact ⟨rfl,HW.out.trans (HB4.out.mono HW.out.size)⟩
 ·go_enter Tryz.func192,Tryz.ntmps192
  go_wp2_with fail
  clear hb0
  refine pairsC.mono ?_
  rintro e w1 ⟨bm,rfl,hI,hb⟩
  have HI:=hd hI
  have HW:=hd hb
  have HG:Hid ((mget pairsM 4).getD .nilFunc = .func (.func 197) #[] #[]):=hd (by kernel_rfl)
  clear hI hb
  have HC:=hd (wordsub (w:=w1) a b)
  go_wp2_with (first | (at_lookup;refine wpList_look0 (q:=.i64) (z:=.nilFunc) (b:=bm) (mm:=pairsM) (y:=4) rfl _ _ _ rfl Tryz.underlying257 Tryz.underlying3 (zeroFn _) rfl HI.out rfl ?_;rw [HG.out]) | (go_at_fn 197;refine HC.out.mono ?_;rintro e w4 ⟨rfl,hb4⟩;have HB4:=hd hb4;clear hb4))
  go_ret2
  exact ⟨rfl,HW.out.trans (HB4.out.mono HW.out.size)⟩
theorem twomul {w:World} (a b:Int):Calls Tryz.prog 192 #[.int .i64 5,.int .i64 a,.int .i64 b] w (TwoR 5 a b w):=by
 have eg1:∀ (args:Array Value) (w:World),(callFunc 198 args).run Tryz.prog w = .ok (.enter 198 args) w:=enters_of Tryz.func198 (by kernel_rfl) rfl
 cases hb0:(b == 0)
 ·go_enter Tryz.func192,Tryz.ntmps192
  go_wp2_with fail
  clear hb0
  refine pairsC.mono ?_
  rintro e w1 ⟨bm,rfl,hI,hb⟩
  have HI:=hd hI
  have HW:=hd hb
  have HG:Hid ((mget pairsM 5).getD .nilFunc = .func (.func 198) #[] #[]):=hd (by kernel_rfl)
  clear hI hb
  have HC:=hd (wordmul (w:=w1) a b)
  go_wp2_with (first | (at_lookup;refine wpList_look0 (q:=.i64) (z:=.nilFunc) (b:=bm) (mm:=pairsM) (y:=5) rfl _ _ _ rfl Tryz.underlying257 Tryz.underlying3 (zeroFn _) rfl HI.out rfl ?_;rw [HG.out]) | (go_at_fn 198;refine HC.out.mono ?_;rintro e w4 ⟨rfl,hb4⟩;have HB4:=hd hb4;clear hb4))
  go_ret2
  exact ⟨rfl,HW.out.trans (HB4.out.mono HW.out.size)⟩
 ·go_enter Tryz.func192,Tryz.ntmps192
  go_wp2_with fail
  clear hb0
  refine pairsC.mono ?_
  rintro e w1 ⟨bm,rfl,hI,hb⟩
  have HI:=hd hI
  have HW:=hd hb
  have HG:Hid ((mget pairsM 5).getD .nilFunc = .func (.func 198) #[] #[]):=hd (by kernel_rfl)
  clear hI hb
  have HC:=hd (wordmul (w:=w1) a b)
  go_wp2_with (first | (at_lookup;refine wpList_look0 (q:=.i64) (z:=.nilFunc) (b:=bm) (mm:=pairsM) (y:=5) rfl _ _ _ rfl Tryz.underlying257 Tryz.underlying3 (zeroFn _) rfl HI.out rfl ?_;rw [HG.out]) | (go_at_fn 198;refine HC.out.mono ?_;rintro e w4 ⟨rfl,hb4⟩;have HB4:=hd hb4;clear hb4))
  go_ret2
  exact ⟨rfl,HW.out.trans (HB4.out.mono HW.out.size)⟩
theorem twoand {w:World} (a b:Int):Calls Tryz.prog 192 #[.int .i64 6,.int .i64 a,.int .i64 b] w (TwoR 6 a b w):=by
 have eg1:∀ (args:Array Value) (w:World),(callFunc 199 args).run Tryz.prog w = .ok (.enter 199 args) w:=enters_of Tryz.func199 (by kernel_rfl) rfl
 cases hb0:(b == 0)
 ·go_enter Tryz.func192,Tryz.ntmps192
  go_wp2_with fail
  clear hb0
  refine pairsC.mono ?_
  rintro e w1 ⟨bm,rfl,hI,hb⟩
  have HI:=hd hI
  have HW:=hd hb
  have HG:Hid ((mget pairsM 6).getD .nilFunc = .func (.func 199) #[] #[]):=hd (by kernel_rfl)
  clear hI hb
  have HC:=hd (wordand (w:=w1) a b)
  go_wp2_with (first | (at_lookup;refine wpList_look0 (q:=.i64) (z:=.nilFunc) (b:=bm) (mm:=pairsM) (y:=6) rfl _ _ _ rfl Tryz.underlying257 Tryz.underlying3 (zeroFn _) rfl HI.out rfl ?_;rw [HG.out]) | (go_at_fn 199;refine HC.out.mono ?_;rintro e w4 ⟨rfl,hb4⟩;have HB4:=hd hb4;clear hb4))
  go_ret2
  exact ⟨rfl,HW.out.trans (HB4.out.mono HW.out.size)⟩
 ·go_enter Tryz.func192,Tryz.ntmps192
  go_wp2_with fail
  clear hb0
  refine pairsC.mono ?_
  rintro e w1 ⟨bm,rfl,hI,hb⟩
  have HI:=hd hI
  have HW:=hd hb
  have HG:Hid ((mget pairsM 6).getD .nilFunc = .func (.func 199) #[] #[]):=hd (by kernel_rfl)
  clear hI hb
  have HC:=hd (wordand (w:=w1) a b)
  go_wp2_with (first | (at_lookup;refine wpList_look0 (q:=.i64) (z:=.nilFunc) (b:=bm) (mm:=pairsM) (y:=6) rfl _ _ _ rfl Tryz.underlying257 Tryz.underlying3 (zeroFn _) rfl HI.out rfl ?_;rw [HG.out]) | (go_at_fn 199;refine HC.out.mono ?_;rintro e w4 ⟨rfl,hb4⟩;have HB4:=hd hb4;clear hb4))
  go_ret2
  exact ⟨rfl,HW.out.trans (HB4.out.mono HW.out.size)⟩
theorem twoor {w:World} (a b:Int):Calls Tryz.prog 192 #[.int .i64 7,.int .i64 a,.int .i64 b] w (TwoR 7 a b w):=by
 have eg1:∀ (args:Array Value) (w:World),(callFunc 200 args).run Tryz.prog w = .ok (.enter 200 args) w:=enters_of Tryz.func200 (by kernel_rfl) rfl
 cases hb0:(b == 0)
 ·go_enter Tryz.func192,Tryz.ntmps192
  go_wp2_with fail
  clear hb0
  refine pairsC.mono ?_
  rintro e w1 ⟨bm,rfl,hI,hb⟩
  have HI:=hd hI
  have HW:=hd hb
  have HG:Hid ((mget pairsM 7).getD .nilFunc = .func (.func 200) #[] #[]):=hd (by kernel_rfl)
  clear hI hb
  have HC:=hd (wordor (w:=w1) a b)
  go_wp2_with (first | (at_lookup;refine wpList_look0 (q:=.i64) (z:=.nilFunc) (b:=bm) (mm:=pairsM) (y:=7) rfl _ _ _ rfl Tryz.underlying257 Tryz.underlying3 (zeroFn _) rfl HI.out rfl ?_;rw [HG.out]) | (go_at_fn 200;refine HC.out.mono ?_;rintro e w4 ⟨rfl,hb4⟩;have HB4:=hd hb4;clear hb4))
  go_ret2
  exact ⟨rfl,HW.out.trans (HB4.out.mono HW.out.size)⟩
 ·go_enter Tryz.func192,Tryz.ntmps192
  go_wp2_with fail
  clear hb0
  refine pairsC.mono ?_
  rintro e w1 ⟨bm,rfl,hI,hb⟩
  have HI:=hd hI
  have HW:=hd hb
  have HG:Hid ((mget pairsM 7).getD .nilFunc = .func (.func 200) #[] #[]):=hd (by kernel_rfl)
  clear hI hb
  have HC:=hd (wordor (w:=w1) a b)
  go_wp2_with (first | (at_lookup;refine wpList_look0 (q:=.i64) (z:=.nilFunc) (b:=bm) (mm:=pairsM) (y:=7) rfl _ _ _ rfl Tryz.underlying257 Tryz.underlying3 (zeroFn _) rfl HI.out rfl ?_;rw [HG.out]) | (go_at_fn 200;refine HC.out.mono ?_;rintro e w4 ⟨rfl,hb4⟩;have HB4:=hd hb4;clear hb4))
  go_ret2
  exact ⟨rfl,HW.out.trans (HB4.out.mono HW.out.size)⟩
theorem twoxor {w:World} (a b:Int):Calls Tryz.prog 192 #[.int .i64 8,.int .i64 a,.int .i64 b] w (TwoR 8 a b w):=by
 have eg1:∀ (args:Array Value) (w:World),(callFunc 201 args).run Tryz.prog w = .ok (.enter 201 args) w:=enters_of Tryz.func201 (by kernel_rfl) rfl
 cases hb0:(b == 0)
 ·go_enter Tryz.func192,Tryz.ntmps192
  go_wp2_with fail
  clear hb0
  refine pairsC.mono ?_
  rintro e w1 ⟨bm,rfl,hI,hb⟩
  have HI:=hd hI
  have HW:=hd hb
  have HG:Hid ((mget pairsM 8).getD .nilFunc = .func (.func 201) #[] #[]):=hd (by kernel_rfl)
  clear hI hb
  have HC:=hd (wordxor (w:=w1) a b)
  go_wp2_with (first | (at_lookup;refine wpList_look0 (q:=.i64) (z:=.nilFunc) (b:=bm) (mm:=pairsM) (y:=8) rfl _ _ _ rfl Tryz.underlying257 Tryz.underlying3 (zeroFn _) rfl HI.out rfl ?_;rw [HG.out]) | (go_at_fn 201;refine HC.out.mono ?_;rintro e w4 ⟨rfl,hb4⟩;have HB4:=hd hb4;clear hb4))
  go_ret2
  exact ⟨rfl,HW.out.trans (HB4.out.mono HW.out.size)⟩
 ·go_enter Tryz.func192,Tryz.ntmps192
  go_wp2_with fail
  clear hb0
  refine pairsC.mono ?_
  rintro e w1 ⟨bm,rfl,hI,hb⟩
  have HI:=hd hI
  have HW:=hd hb
  have HG:Hid ((mget pairsM 8).getD .nilFunc = .func (.func 201) #[] #[]):=hd (by kernel_rfl)
  clear hI hb
  have HC:=hd (wordxor (w:=w1) a b)
  go_wp2_with (first | (at_lookup;refine wpList_look0 (q:=.i64) (z:=.nilFunc) (b:=bm) (mm:=pairsM) (y:=8) rfl _ _ _ rfl Tryz.underlying257 Tryz.underlying3 (zeroFn _) rfl HI.out rfl ?_;rw [HG.out]) | (go_at_fn 201;refine HC.out.mono ?_;rintro e w4 ⟨rfl,hb4⟩;have HB4:=hd hb4;clear hb4))
  go_ret2
  exact ⟨rfl,HW.out.trans (HB4.out.mono HW.out.size)⟩
theorem twoshl {w:World} (a b:Int):Calls Tryz.prog 192 #[.int .i64 9,.int .i64 a,.int .i64 b] w (TwoR 9 a b w):=by
 have eg1:∀ (args:Array Value) (w:World),(callFunc 202 args).run Tryz.prog w = .ok (.enter 202 args) w:=enters_of Tryz.func202 (by kernel_rfl) rfl
 cases hb0:(b == 0)
 ·go_enter Tryz.func192,Tryz.ntmps192
  go_wp2_with fail
  clear hb0
  refine pairsC.mono ?_
  rintro e w1 ⟨bm,rfl,hI,hb⟩
  have HI:=hd hI
  have HW:=hd hb
  have HG:Hid ((mget pairsM 9).getD .nilFunc = .func (.func 202) #[] #[]):=hd (by kernel_rfl)
  clear hI hb
  have HC:=hd (wordShl (w:=w1) a b)
  go_wp2_with (first | (at_lookup;refine wpList_look0 (q:=.i64) (z:=.nilFunc) (b:=bm) (mm:=pairsM) (y:=9) rfl _ _ _ rfl Tryz.underlying257 Tryz.underlying3 (zeroFn _) rfl HI.out rfl ?_;rw [HG.out]) | (go_at_fn 202;refine HC.out.mono ?_;rintro e w4 ⟨rfl,hb4⟩;have HB4:=hd hb4;clear hb4))
  go_ret2
  exact ⟨rfl,HW.out.trans (HB4.out.mono HW.out.size)⟩
 ·go_enter Tryz.func192,Tryz.ntmps192
  go_wp2_with fail
  clear hb0
  refine pairsC.mono ?_
  rintro e w1 ⟨bm,rfl,hI,hb⟩
  have HI:=hd hI
  have HW:=hd hb
  have HG:Hid ((mget pairsM 9).getD .nilFunc = .func (.func 202) #[] #[]):=hd (by kernel_rfl)
  clear hI hb
  have HC:=hd (wordShl (w:=w1) a b)
  go_wp2_with (first | (at_lookup;refine wpList_look0 (q:=.i64) (z:=.nilFunc) (b:=bm) (mm:=pairsM) (y:=9) rfl _ _ _ rfl Tryz.underlying257 Tryz.underlying3 (zeroFn _) rfl HI.out rfl ?_;rw [HG.out]) | (go_at_fn 202;refine HC.out.mono ?_;rintro e w4 ⟨rfl,hb4⟩;have HB4:=hd hb4;clear hb4))
  go_ret2
  exact ⟨rfl,HW.out.trans (HB4.out.mono HW.out.size)⟩
theorem twoshr {w:World} (a b:Int):Calls Tryz.prog 192 #[.int .i64 10,.int .i64 a,.int .i64 b] w (TwoR 10 a b w):=by
 have eg1:∀ (args:Array Value) (w:World),(callFunc 203 args).run Tryz.prog w = .ok (.enter 203 args) w:=enters_of Tryz.func203 (by kernel_rfl) rfl
 cases hb0:(b == 0)
 ·go_enter Tryz.func192,Tryz.ntmps192
  go_wp2_with fail
  clear hb0
  refine pairsC.mono ?_
  rintro e w1 ⟨bm,rfl,hI,hb⟩
  have HI:=hd hI
  have HW:=hd hb
  have HG:Hid ((mget pairsM 10).getD .nilFunc = .func (.func 203) #[] #[]):=hd (by kernel_rfl)
  clear hI hb
  have HC:=hd (wordShr (w:=w1) a b)
  go_wp2_with (first | (at_lookup;refine wpList_look0 (q:=.i64) (z:=.nilFunc) (b:=bm) (mm:=pairsM) (y:=10) rfl _ _ _ rfl Tryz.underlying257 Tryz.underlying3 (zeroFn _) rfl HI.out rfl ?_;rw [HG.out]) | (go_at_fn 203;refine HC.out.mono ?_;rintro e w4 ⟨rfl,hb4⟩;have HB4:=hd hb4;clear hb4))
  go_ret2
  exact ⟨rfl,HW.out.trans (HB4.out.mono HW.out.size)⟩
 ·go_enter Tryz.func192,Tryz.ntmps192
  go_wp2_with fail
  clear hb0
  refine pairsC.mono ?_
  rintro e w1 ⟨bm,rfl,hI,hb⟩
  have HI:=hd hI
  have HW:=hd hb
  have HG:Hid ((mget pairsM 10).getD .nilFunc = .func (.func 203) #[] #[]):=hd (by kernel_rfl)
  clear hI hb
  have HC:=hd (wordShr (w:=w1) a b)
  go_wp2_with (first | (at_lookup;refine wpList_look0 (q:=.i64) (z:=.nilFunc) (b:=bm) (mm:=pairsM) (y:=10) rfl _ _ _ rfl Tryz.underlying257 Tryz.underlying3 (zeroFn _) rfl HI.out rfl ?_;rw [HG.out]) | (go_at_fn 203;refine HC.out.mono ?_;rintro e w4 ⟨rfl,hb4⟩;have HB4:=hd hb4;clear hb4))
  go_ret2
  exact ⟨rfl,HW.out.trans (HB4.out.mono HW.out.size)⟩
theorem twoeq {w:World} (a b:Int):Calls Tryz.prog 192 #[.int .i64 13,.int .i64 a,.int .i64 b] w (TwoR 13 a b w):=by
 have eg1:∀ (args:Array Value) (w:World),(callFunc 206 args).run Tryz.prog w = .ok (.enter 206 args) w:=enters_of Tryz.func206 (by kernel_rfl) rfl
 cases hb0:(b == 0)
 ·go_enter Tryz.func192,Tryz.ntmps192
  go_wp2_with fail
  clear hb0
  refine pairsC.mono ?_
  rintro e w1 ⟨bm,rfl,hI,hb⟩
  have HI:=hd hI
  have HW:=hd hb
  have HG:Hid ((mget pairsM 13).getD .nilFunc = .func (.func 206) #[] #[]):=hd (by kernel_rfl)
  clear hI hb
  have HC:=hd (wordeq (w:=w1) a b)
  go_wp2_with (first | (at_lookup;refine wpList_look0 (q:=.i64) (z:=.nilFunc) (b:=bm) (mm:=pairsM) (y:=13) rfl _ _ _ rfl Tryz.underlying257 Tryz.underlying3 (zeroFn _) rfl HI.out rfl ?_;rw [HG.out]) | (go_at_fn 206;refine HC.out.mono ?_;rintro e w4 ⟨rfl,hb4⟩;have HB4:=hd hb4;clear hb4))
  go_ret2
  exact ⟨rfl,HW.out.trans (HB4.out.mono HW.out.size)⟩
 ·go_enter Tryz.func192,Tryz.ntmps192
  go_wp2_with fail
  clear hb0
  refine pairsC.mono ?_
  rintro e w1 ⟨bm,rfl,hI,hb⟩
  have HI:=hd hI
  have HW:=hd hb
  have HG:Hid ((mget pairsM 13).getD .nilFunc = .func (.func 206) #[] #[]):=hd (by kernel_rfl)
  clear hI hb
  have HC:=hd (wordeq (w:=w1) a b)
  go_wp2_with (first | (at_lookup;refine wpList_look0 (q:=.i64) (z:=.nilFunc) (b:=bm) (mm:=pairsM) (y:=13) rfl _ _ _ rfl Tryz.underlying257 Tryz.underlying3 (zeroFn _) rfl HI.out rfl ?_;rw [HG.out]) | (go_at_fn 206;refine HC.out.mono ?_;rintro e w4 ⟨rfl,hb4⟩;have HB4:=hd hb4;clear hb4))
  go_ret2
  exact ⟨rfl,HW.out.trans (HB4.out.mono HW.out.size)⟩
theorem twolt {w:World} (a b:Int):Calls Tryz.prog 192 #[.int .i64 14,.int .i64 a,.int .i64 b] w (TwoR 14 a b w):=by
 have eg1:∀ (args:Array Value) (w:World),(callFunc 207 args).run Tryz.prog w = .ok (.enter 207 args) w:=enters_of Tryz.func207 (by kernel_rfl) rfl
 cases hb0:(b == 0)
 ·go_enter Tryz.func192,Tryz.ntmps192
  go_wp2_with fail
  clear hb0
  refine pairsC.mono ?_
  rintro e w1 ⟨bm,rfl,hI,hb⟩
  have HI:=hd hI
  have HW:=hd hb
  have HG:Hid ((mget pairsM 14).getD .nilFunc = .func (.func 207) #[] #[]):=hd (by kernel_rfl)
  clear hI hb
  have HC:=hd (wordlt (w:=w1) a b)
  go_wp2_with (first | (at_lookup;refine wpList_look0 (q:=.i64) (z:=.nilFunc) (b:=bm) (mm:=pairsM) (y:=14) rfl _ _ _ rfl Tryz.underlying257 Tryz.underlying3 (zeroFn _) rfl HI.out rfl ?_;rw [HG.out]) | (go_at_fn 207;refine HC.out.mono ?_;rintro e w4 ⟨rfl,hb4⟩;have HB4:=hd hb4;clear hb4))
  go_ret2
  exact ⟨rfl,HW.out.trans (HB4.out.mono HW.out.size)⟩
 ·go_enter Tryz.func192,Tryz.ntmps192
  go_wp2_with fail
  clear hb0
  refine pairsC.mono ?_
  rintro e w1 ⟨bm,rfl,hI,hb⟩
  have HI:=hd hI
  have HW:=hd hb
  have HG:Hid ((mget pairsM 14).getD .nilFunc = .func (.func 207) #[] #[]):=hd (by kernel_rfl)
  clear hI hb
  have HC:=hd (wordlt (w:=w1) a b)
  go_wp2_with (first | (at_lookup;refine wpList_look0 (q:=.i64) (z:=.nilFunc) (b:=bm) (mm:=pairsM) (y:=14) rfl _ _ _ rfl Tryz.underlying257 Tryz.underlying3 (zeroFn _) rfl HI.out rfl ?_;rw [HG.out]) | (go_at_fn 207;refine HC.out.mono ?_;rintro e w4 ⟨rfl,hb4⟩;have HB4:=hd hb4;clear hb4))
  go_ret2
  exact ⟨rfl,HW.out.trans (HB4.out.mono HW.out.size)⟩
theorem twobelow {w:World} (a b:Int):Calls Tryz.prog 192 #[.int .i64 15,.int .i64 a,.int .i64 b] w (TwoR 15 a b w):=by
 have eg1:∀ (args:Array Value) (w:World),(callFunc 208 args).run Tryz.prog w = .ok (.enter 208 args) w:=enters_of Tryz.func208 (by kernel_rfl) rfl
 cases hb0:(b == 0)
 ·go_enter Tryz.func192,Tryz.ntmps192
  go_wp2_with fail
  clear hb0
  refine pairsC.mono ?_
  rintro e w1 ⟨bm,rfl,hI,hb⟩
  have HI:=hd hI
  have HW:=hd hb
  have HG:Hid ((mget pairsM 15).getD .nilFunc = .func (.func 208) #[] #[]):=hd (by kernel_rfl)
  clear hI hb
  have HC:=hd (wordbelow (w:=w1) a b)
  go_wp2_with (first | (at_lookup;refine wpList_look0 (q:=.i64) (z:=.nilFunc) (b:=bm) (mm:=pairsM) (y:=15) rfl _ _ _ rfl Tryz.underlying257 Tryz.underlying3 (zeroFn _) rfl HI.out rfl ?_;rw [HG.out]) | (go_at_fn 208;refine HC.out.mono ?_;rintro e w4 ⟨rfl,hb4⟩;have HB4:=hd hb4;clear hb4))
  go_ret2
  exact ⟨rfl,HW.out.trans (HB4.out.mono HW.out.size)⟩
 ·go_enter Tryz.func192,Tryz.ntmps192
  go_wp2_with fail
  clear hb0
  refine pairsC.mono ?_
  rintro e w1 ⟨bm,rfl,hI,hb⟩
  have HI:=hd hI
  have HW:=hd hb
  have HG:Hid ((mget pairsM 15).getD .nilFunc = .func (.func 208) #[] #[]):=hd (by kernel_rfl)
  clear hI hb
  have HC:=hd (wordbelow (w:=w1) a b)
  go_wp2_with (first | (at_lookup;refine wpList_look0 (q:=.i64) (z:=.nilFunc) (b:=bm) (mm:=pairsM) (y:=15) rfl _ _ _ rfl Tryz.underlying257 Tryz.underlying3 (zeroFn _) rfl HI.out rfl ?_;rw [HG.out]) | (go_at_fn 208;refine HC.out.mono ?_;rintro e w4 ⟨rfl,hb4⟩;have HB4:=hd hb4;clear hb4))
  go_ret2
  exact ⟨rfl,HW.out.trans (HB4.out.mono HW.out.size)⟩
theorem twodiv {w:World} (a b:Int) (hb:¬ b=0):Calls Tryz.prog 192 #[.int .i64 11,.int .i64 a,.int .i64 b] w (TwoR 11 a b w):=by
 have eg1:∀ (args:Array Value) (w:World),(callFunc 204 args).run Tryz.prog w = .ok (.enter 204 args) w:=enters_of Tryz.func204 (by kernel_rfl) rfl
 have hb0:(b == 0)=false:=by simpa using hb
 have HB:=hd hb
 clear hb
 go_enter Tryz.func192,Tryz.ntmps192
 go_wp2_with fail
 clear hb0
 refine pairsC.mono ?_
 rintro e w1 ⟨bm,rfl,hI,hb⟩
 have HI:=hd hI
 have HW:=hd hb
 have HG:Hid ((mget pairsM 11).getD .nilFunc = .func (.func 204) #[] #[]):=hd (by kernel_rfl)
 clear hI hb
 have HC:=hd (wordDiv (w:=w1) a b HB.out)
 go_wp2_with (first | (at_lookup;refine wpList_look0 (q:=.i64) (z:=.nilFunc) (b:=bm) (mm:=pairsM) (y:=11) rfl _ _ _ rfl Tryz.underlying257 Tryz.underlying3 (zeroFn _) rfl HI.out rfl ?_;rw [HG.out]) | (go_at_fn 204;refine HC.out.mono ?_;rintro e w4 ⟨rfl,hb4⟩;have HB4:=hd hb4;clear hb4))
 go_ret2
 exact ⟨rfl,HW.out.trans (HB4.out.mono HW.out.size)⟩
theorem twodiv0 {w:World} (a:Int):Calls Tryz.prog 192 #[.int .i64 11,.int .i64 a,.int .i64 0] w fun e w'=>e = .returned (.tuple #[.int .i64 0,.int .i64 9])/\Below w.heap.size w w':=by
 go_enter Tryz.func192,Tryz.ntmps192
 go_wp2
 go_ret2
 exact ⟨rfl,Below.refl _ _⟩
theorem tworem {w:World} (a b:Int) (hb:¬ b=0):Calls Tryz.prog 192 #[.int .i64 12,.int .i64 a,.int .i64 b] w (TwoR 12 a b w):=by
 have eg1:∀ (args:Array Value) (w:World),(callFunc 205 args).run Tryz.prog w = .ok (.enter 205 args) w:=enters_of Tryz.func205 (by kernel_rfl) rfl
 have hb0:(b == 0)=false:=by simpa using hb
 have HB:=hd hb
 clear hb
 go_enter Tryz.func192,Tryz.ntmps192
 go_wp2_with fail
 clear hb0
 refine pairsC.mono ?_
 rintro e w1 ⟨bm,rfl,hI,hb⟩
 have HI:=hd hI
 have HW:=hd hb
 have HG:Hid ((mget pairsM 12).getD .nilFunc = .func (.func 205) #[] #[]):=hd (by kernel_rfl)
 clear hI hb
 have HC:=hd (wordRem (w:=w1) a b HB.out)
 go_wp2_with (first | (at_lookup;refine wpList_look0 (q:=.i64) (z:=.nilFunc) (b:=bm) (mm:=pairsM) (y:=12) rfl _ _ _ rfl Tryz.underlying257 Tryz.underlying3 (zeroFn _) rfl HI.out rfl ?_;rw [HG.out]) | (go_at_fn 205;refine HC.out.mono ?_;rintro e w4 ⟨rfl,hb4⟩;have HB4:=hd hb4;clear hb4))
 go_ret2
 exact ⟨rfl,HW.out.trans (HB4.out.mono HW.out.size)⟩
theorem tworem0 {w:World} (a:Int):Calls Tryz.prog 192 #[.int .i64 12,.int .i64 a,.int .i64 0] w fun e w'=>e = .returned (.tuple #[.int .i64 0,.int .i64 9])/\Below w.heap.size w w':=by
 go_enter Tryz.func192,Tryz.ntmps192
 go_wp2
 go_ret2
 exact ⟨rfl,Below.refl _ _⟩
def twoV (op a b:Int):Int:=if (op=11 \/ op=12)/\b=0 then 0 else calc2 op a b
def twoE (op b:Int):Int:=if (op=11 \/ op=12)/\b=0 then 9 else 0
theorem twoC {w:World} (op a b:Int) (h:3 <= op/\op <= 15):Calls Tryz.prog 192 #[.int .i64 op,.int .i64 a,.int .i64 b] w fun e w'=>e = .returned (.tuple #[.int .i64 (twoV op a b),.int .i64 (twoE op b)])/\Below w.heap.size w w':=by
 have hop:op=3 \/ op=4 \/ op=5 \/ op=6 \/ op=7 \/ op=8 \/ op=9 \/ op=10 \/ op=11 \/ op=12 \/ op=13 \/ op=14 \/ op=15:=by omega
 have key:∀ op, ¬ ((op=11 \/ op=12)/\b=0) -> twoV op a b=calc2 op a b/\twoE op b=0:=fun op h=>⟨by unfold twoV;rw [if_neg h],by unfold twoE;rw [if_neg h]⟩
 have key0:∀ op,((op=11 \/ op=12)/\b=0) -> twoV op a b=0/\twoE op b=9:=fun op h=>⟨by unfold twoV;rw [if_pos h],by unfold twoE;rw [if_pos h]⟩
 rcases hop with rfl | rfl | rfl | rfl | rfl | rfl | rfl | rfl | rfl | rfl | rfl | rfl | rfl
 ·rw [(key 3 (by omega)).1,(key 3 (by omega)).2];exact twoadd a b
 ·rw [(key 4 (by omega)).1,(key 4 (by omega)).2];exact twosub a b
 ·rw [(key 5 (by omega)).1,(key 5 (by omega)).2];exact twomul a b
 ·rw [(key 6 (by omega)).1,(key 6 (by omega)).2];exact twoand a b
 ·rw [(key 7 (by omega)).1,(key 7 (by omega)).2];exact twoor a b
 ·rw [(key 8 (by omega)).1,(key 8 (by omega)).2];exact twoxor a b
 ·rw [(key 9 (by omega)).1,(key 9 (by omega)).2];exact twoshl a b
 ·rw [(key 10 (by omega)).1,(key 10 (by omega)).2];exact twoshr a b
 ·by_cases hb:b=0
  ·rw [(key0 11 ⟨by omega,hb⟩).1,(key0 11 ⟨by omega,hb⟩).2,hb];exact twodiv0 a
  ·rw [(key 11 (by omega)).1,(key 11 (by omega)).2];exact twodiv a b hb
 ·by_cases hb:b=0
  ·rw [(key0 12 ⟨by omega,hb⟩).1,(key0 12 ⟨by omega,hb⟩).2,hb];exact tworem0 a
  ·rw [(key 12 (by omega)).1,(key 12 (by omega)).2];exact tworem a b hb
 ·rw [(key 13 (by omega)).1,(key 13 (by omega)).2];exact twoeq a b
 ·rw [(key 14 (by omega)).1,(key 14 (by omega)).2];exact twolt a b
 ·rw [(key 15 (by omega)).1,(key 15 (by omega)).2];exact twobelow a b
theorem ints_at {W:World} {v:Value} {xs:List Int} (h:Ints W v xs) (hp:0 < xs.length):∃ (b o c:Nat),v = .slice (some ⟨b,o,none⟩) xs.length c/\b < W.heap.size /\ ∀ i,i < xs.length -> W.cell? ⟨b,o+i,none⟩=some (.int .i64 (xs.getD i 0)):=by
 obtain ⟨a,c,b,o,rfl,_,_,ha,hx⟩:=h.parts
 obtain ⟨rfl,hb⟩:=ha hp
 exact ⟨b,o,c,rfl,hb,hx⟩
def CalcR (op:Int) (xs:List Int) (w:World) (e:Ending) (w' : World):Prop:=e = .returned (.tuple #[.int .i64 (calcV op xs),.int .i64 (calcE op xs)])/\Below w.heap.size w w'
theorem calc_bad {op:Int} {xs:List Int} (h:op < 3 \/ 17 < op \/ xs.length ≠ wantI op):calcV op xs=0/\calcE op xs=1:=⟨by unfold calcV;rw [if_pos h],by unfold calcE;rw [if_pos h]⟩
theorem calcC {w:World} {op:Int} {v:Value} {xs:List Int} (hv:Ints w v xs):Calls Tryz.prog 175 #[.int .i64 op,v] w (CalcR op xs w):=by
 obtain ⟨a0,c0,rfl⟩:=hv.form
 obtain ⟨n,hn⟩ : ∃ n,n=xs.length:=⟨_,rfl⟩
 have HX:=hd hv
 rw [<-hn] at HX ⊢
 have HN:=hd hn
 clear hv hn
 by_cases h16:op=16
 ·subst h16
  by_cases h1:n=1
  ·subst h1
   obtain ⟨b,o,c,he,hb,hc⟩:=ints_at HX.out (by rw [<-HN.out];omega)
   rw [<-HN.out] at he
   cases he
   have hc0:=hc 0 (by rw [<-HN.out];omega)
   rw [Nat.add_zero] at hc0
   have HV:Hid (calcV 16 xs=flagI (xs.getD 0 0 == 0)/\calcE 16 xs=0):=hd (by
    have h9:¬ ((16:Int) < 3 \/ (17:Int) < 16 \/ xs.length ≠ wantI 16):=by rw [<-HN.out];simp [wantI]
    unfold calcV calcE
    rw [if_neg h9,if_neg h9];simp)
   clear hc
   go_enter Tryz.func175,Tryz.ntmps175
   go_wp2_with fail
   refine (flagC _).mono ?_
   rintro e w1 ⟨rfl,hb1⟩
   go_wp2
   go_ret2
   exact ⟨by rw [HV.out.1,HV.out.2];rfl,hb1⟩
  ·have HV:=hd (calc_bad (op:=16) (xs:=xs) (by rw [<-HN.out];right;right;simpa [wantI] using h1))
   have ht:(((n:Nat):Int) != 1)=true:=by simp;omega
   clear h1
   go_enter Tryz.func175,Tryz.ntmps175
   go_wp2
   go_ret2
   exact ⟨by rw [HV.out.1,HV.out.2];rfl,Below.refl _ _⟩
 by_cases h17:op=17
 ·subst h17
  by_cases h1:n=3
  ·subst h1
   obtain ⟨b,o,c,he,hb,hc⟩:=ints_at HX.out (by rw [<-HN.out];omega)
   rw [<-HN.out] at he
   cases he
   have hc0:=hc 0 (by rw [<-HN.out];omega)
   have hc1:=hc 1 (by rw [<-HN.out];omega)
   have hc2:=hc 2 (by rw [<-HN.out];omega)
   rw [Nat.add_zero] at hc0
   have HV:Hid (calcV 17 xs=(if xs.getD 0 0 ≠ 0 then xs.getD 1 0 else xs.getD 2 0)/\calcE 17 xs=0):=hd (by
    have h9:¬ ((17:Int) < 3 \/ (17:Int) < 17 \/ xs.length ≠ wantI 17):=by rw [<-HN.out];simp [wantI]
    unfold calcV calcE
    rw [if_neg h9,if_neg h9];simp)
   clear hc
   generalize xs.getD 0 0=x0 at *
   generalize xs.getD 1 0=x1 at *
   generalize xs.getD 2 0=x2 at *
   cases hq:(x0 != 0)
   ·have hq0:x0=0:=by simpa using hq
    have HQ:Hid (¬ x0 ≠ 0):=hd (by simp [hq0])
    clear hq0
    go_enter Tryz.func175,Tryz.ntmps175
    go_wp2
    go_ret2
    exact ⟨by rw [HV.out.1,HV.out.2,if_neg HQ.out];rfl,Below.refl _ _⟩
   ·have HQ:Hid (x0 ≠ 0):=hd (by simpa using hq)
    go_enter Tryz.func175,Tryz.ntmps175
    go_wp2
    go_ret2
    exact ⟨by rw [HV.out.1,HV.out.2,if_pos HQ.out];rfl,Below.refl _ _⟩
  ·have HV:=hd (calc_bad (op:=17) (xs:=xs) (by rw [<-HN.out];right;right;simpa [wantI] using h1))
   have ht:(((n:Nat):Int) != 3)=true:=by simp;omega
   clear h1
   go_enter Tryz.func175,Tryz.ntmps175
   go_wp2
   go_ret2
   exact ⟨by rw [HV.out.1,HV.out.2];rfl,Below.refl _ _⟩
 have e16:(op == 16)=false:=by simpa using h16
 have e17:(op == 17)=false:=by simpa using h17
 have HW2:Hid (wantI op=2):=hd (by unfold wantI;rw [if_neg h16,if_neg h17])
 cases hl:decide (op < 3)
 rotate_left
 ·have HV:=hd (calc_bad (op:=op) (xs:=xs) (.inl (by simpa using hl)))
  clear h16 h17
  go_enter Tryz.func175,Tryz.ntmps175
  go_wp2
  go_ret2
  exact ⟨by rw [HV.out.1,HV.out.2];rfl,Below.refl _ _⟩
 cases hg:decide (17 < op)
 rotate_left
 ·have HV:=hd (calc_bad (op:=op) (xs:=xs) (.inr (.inl (by simpa using hg))))
  clear h16 h17
  go_enter Tryz.func175,Tryz.ntmps175
  go_wp2
  go_ret2
  exact ⟨by rw [HV.out.1,HV.out.2];rfl,Below.refl _ _⟩
 cases h2:((n:Int) != 2)
 rotate_left
 ·have HV:=hd (calc_bad (op:=op) (xs:=xs) (.inr (.inr (by rw [HW2.out, <-HN.out];simp at h2;omega))))
  clear h16 h17
  go_enter Tryz.func175,Tryz.ntmps175
  go_wp2
  go_ret2
  exact ⟨by rw [HV.out.1,HV.out.2];rfl,Below.refl _ _⟩
 have hn2:n=2:=by simp at h2;omega
 subst hn2
 have HOP:Hid (3 <= op/\op <= 15):=hd (by simp at hl hg;omega)
 obtain ⟨b,o,c,he,hb,hc⟩:=ints_at HX.out (by rw [<-HN.out];omega)
 rw [<-HN.out] at he
 cases he
 have hc0:=hc 0 (by rw [<-HN.out];omega)
 have hc1:=hc 1 (by rw [<-HN.out];omega)
 rw [Nat.add_zero] at hc0
 have HV:Hid (calcV op xs=twoV op (xs.getD 0 0) (xs.getD 1 0)/\calcE op xs=twoE op (xs.getD 1 0)):=hd (by
  have h9:¬ (op < 3 \/ 17 < op \/ xs.length ≠ wantI op):=by rw [HW2.out, <-HN.out];have:=HOP.out;omega
  unfold calcV calcE twoV twoE
  rw [if_neg h9,if_neg h9,if_neg h16,if_neg h17,if_neg h16,if_neg h17]
  exact ⟨rfl,rfl⟩)
 obtain ⟨x,hx⟩ : ∃ x,x=xs.getD 0 0:=⟨_,rfl⟩
 obtain ⟨y,hy⟩ : ∃ y,y=xs.getD 1 0:=⟨_,rfl⟩
 rw [<-hx] at hc0 HV
 rw [<-hy] at hc1 HV
 have HC:Hid (∀ W,Below w.heap.size w W -> W.cell? ⟨b,o,none⟩=some (.int .i64 x)/\W.cell? ⟨b,o+1,none⟩=some (.int .i64 y)):=hd (fun W h=>⟨(h.cell (p:=⟨b,o,none⟩) hb).trans hc0,(h.cell (p:=⟨b,o+1,none⟩) hb).trans hc1⟩)
 have HW:=hd (Below.refl w.heap.size w)
 clear hc hc0 hc1 h16 h17 hx hy h2
 have h2' : ((2:Int) != 2)=false:=rfl
 go_enter Tryz.func175,Tryz.ntmps175
 go_upto_region 16 with (fail)
 refine wp_region_grow 12 (fun kz=>match kz with | 7=>.const (.tuple #[.int .i64 (twoV op x y),.int .i64 (twoE op y)]) | _=>.plain) (by kernel_rfl) (by kernel_rfl) ?_ (fun ν => ?_)
 ·(intro k;(try dsimp only);split <;> first | exact True.intro | (intro u w1 w2 hu hb;exact hu.below hb))
 simp only [List.take_succ_cons,List.take_zero,List.drop_succ_cons,List.drop_zero]
 iterate 7 (refine Grow.val (v := ?_) rfl rfl (fun wg hbg hdg => ?_) ?_;rotate_left;(focus ((obtain ⟨g0,g1⟩:=HC.out wg hbg);clear hbg hdg;first | (go_simp;done) | (go_simp;with_reducible rfl)));simp only [Act.put,List.setIfInBounds_toArray,List.set_cons_zero,List.set_cons_succ])
 refine Grow.call (f := ?_) (args := ?_) rfl (fun wg => ?_) (fun wg hbg hdg => ?_) ?_
 rotate_left 2
 focus (first | (go_simp;done) | (go_simp;refine And.intro ?_ ?_ <;> with_reducible rfl) | (go_simp;with_reducible rfl))
 focus exact Calls.mono ((twoC op x y HOP.out)) (fun e w2 ⟨he,hb2⟩=>⟨_,he,rfl,hb2⟩)
 simp only [Act.put,Known.val,List.setIfInBounds_toArray,List.set_cons_zero,List.set_cons_succ]
 iterate 4 (refine Grow.val (v := ?_) rfl rfl (fun wg hbg hdg => ?_) ?_;rotate_left;(focus ((obtain ⟨g0,g1⟩:=HC.out wg hbg);clear hbg hdg;first | (go_simp;done) | (go_simp;with_reducible rfl)));simp only [Act.put,List.setIfInBounds_toArray,List.set_cons_zero,List.set_cons_succ])
 intro wg hb hf hap
 clear hap
 replace HW:=hd (HW.out.trans (hb.mono HW.out.size))
 clear hb
 clear hf
 go_wp2
 go_ret2
 exact ⟨by rw [HV.out.1,HV.out.2];rfl,HW.out⟩
end Go.Proofs.YtgmhnepmkaonaaaGreat
