/- Part 31. -/
import Derived.Test.YtcmflfkpeodicaaGreatIRA29
namespace Go.Proofs.YtcmflfkpeodicaaGreat
set_option maxHeartbeats 6400000
set_option linter.all false
section
open Go.RowKit
def eZ:List (Int × Value):=[(3,.func (.func 222) #[] #[]),(4,.func (.func 223) #[] #[]),(5,.func (.func 224) #[] #[]),(6,.func (.func 225) #[] #[]),(7,.func (.func 226) #[] #[]),(8,.func (.func 227) #[] #[]),(9,.func (.func 228) #[] #[]),(10,.func (.func 229) #[] #[]),(11,.func (.func 230) #[] #[]),(12,.func (.func 231) #[] #[]),(13,.func (.func 232) #[] #[]),(14,.func (.func 233) #[] #[]),(15,.func (.func 234) #[] #[])]
def aGE (w:World) (e:Ending) (w' : World):Prop := ∃ bm,e = .returned (.map (some bm))/\IMap w' bm eZ/\Below w.heap.size w w'
theorem gN {w:World}:Calls Tryz.prog 221 #[] w (aGE w):=by
 have hmm:=@run_makeMap Tryz.prog
 go_enter Tryz.func221,Tryz.ntmps221
 have HI:Hid (IMap (w.alloc (.map #[] 0)) w.heap.size []):=h! (IMap.new w)
 have HTU:Hid (Turn [w.heap.size] (w.alloc (.map #[] 0)) (w.alloc (.map #[] 0))):=h! (Turn.refl _ _)
 go_wp2_with (with_reducible refine fC (q:=.i64) (b:=w.heap.size) rfl _ _ _ _ (.inr rfl) Tryz.underlying272 Tryz.underlying3 rfl HI.out rfl ?_;intro w2 hm2 _ ht2;replace HI:=h! hm2;replace HTU:=h! (HTU.out.trans ht2);clear hm2 ht2)
 have HP:Hid (eZ=mput (mput (mput (mput (mput (mput (mput (mput (mput (mput (mput (mput (mput [] 3 (.func (.func 222) #[] #[])) 4 (.func (.func 223) #[] #[])) 5 (.func (.func 224) #[] #[])) 6 (.func (.func 225) #[] #[])) 7 (.func (.func 226) #[] #[])) 8 (.func (.func 227) #[] #[])) 9 (.func (.func 228) #[] #[])) 10 (.func (.func 229) #[] #[])) 11 (.func (.func 230) #[] #[])) 12 (.func (.func 231) #[] #[])) 13 (.func (.func 232) #[] #[])) 14 (.func (.func 233) #[] #[])) 15 (.func (.func 234) #[] #[])):=h! (by kernel_rfl)
 go_ret
 refine ⟨w.heap.size,rfl, ?_, ?_⟩
 ·rw [HP.out];exact HI.out
 exact ((Below.refl _ _).alloc (aF _) _).trans (HTU.out.below (by simp) (by simp))
theorem gO (w:World):(zeroValue 271).run Tryz.prog w = .ok .nilFunc w:=by kernel_rfl
def TwoR (op a b:Int) (w:World) (e:Ending) (w' : World):Prop:=e = .returned (.tuple #[.int .i64 (fH op a b),.int .i64 0])/\Below w.heap.size w w'
theorem aGF {w:World} (a b:Int):Calls Tryz.prog 201 #[.int .i64 3,.int .i64 a,.int .i64 b] w (TwoR 3 a b w):=by
 have eg1:∀ (args:Array Value) (w:World),(callFunc 222 args).run Tryz.prog w = .ok (.enter 222 args) w:=enters_of Tryz.func222 (by kernel_rfl) rfl
 cases hb0:(b == 0)
 ·go_enter Tryz.func201,Tryz.ntmps201
  go_wp2_with fail
  clear hb0
  refine gN.mono ?_
  rintro e w1 ⟨bm,rfl,hI,hb⟩
  have HI:=h! hI
  have HW:=h! hb
  have HG:Hid ((mget eZ 3).getD .nilFunc = .func (.func 222) #[] #[]):=h! (by kernel_rfl)
  clear hI hb
  have HC:=h! (zJ (w:=w1) a b)
  go_wp2_with (first | (at_lookup;refine eN (q:=.i64) (z:=.nilFunc) (b:=bm) (mm:=eZ) (y:=3) rfl _ _ _ rfl Tryz.underlying272 Tryz.underlying3 (gO _) rfl HI.out rfl ?_;rw [HG.out]) | (go_at_fn 222;refine HC.out.mono ?_;rintro e w4 ⟨rfl,hb4⟩;have HB4:=h! hb4;clear hb4))
  go_ret2
  exact ⟨rfl,HW.out.trans (HB4.out.mono HW.out.size)⟩
 go_enter Tryz.func201,Tryz.ntmps201
 go_wp2_with fail
 clear hb0
 refine gN.mono ?_
 rintro e w1 ⟨bm,rfl,hI,hb⟩
 have HI:=h! hI
 have HW:=h! hb
 have HG:Hid ((mget eZ 3).getD .nilFunc = .func (.func 222) #[] #[]):=h! (by kernel_rfl)
 clear hI hb
 have HC:=h! (zJ (w:=w1) a b)
 go_wp2_with (first | (at_lookup;refine eN (q:=.i64) (z:=.nilFunc) (b:=bm) (mm:=eZ) (y:=3) rfl _ _ _ rfl Tryz.underlying272 Tryz.underlying3 (gO _) rfl HI.out rfl ?_;rw [HG.out]) | (go_at_fn 222;refine HC.out.mono ?_;rintro e w4 ⟨rfl,hb4⟩;have HB4:=h! hb4;clear hb4))
 go_ret2
 exact ⟨rfl,HW.out.trans (HB4.out.mono HW.out.size)⟩
theorem aGG {w:World} (a b:Int):Calls Tryz.prog 201 #[.int .i64 4,.int .i64 a,.int .i64 b] w (TwoR 4 a b w):=by
 have eg1:∀ (args:Array Value) (w:World),(callFunc 223 args).run Tryz.prog w = .ok (.enter 223 args) w:=enters_of Tryz.func223 (by kernel_rfl) rfl
 cases hb0:(b == 0)
 ·go_enter Tryz.func201,Tryz.ntmps201
  go_wp2_with fail
  clear hb0
  refine gN.mono ?_
  rintro e w1 ⟨bm,rfl,hI,hb⟩
  have HI:=h! hI
  have HW:=h! hb
  have HG:Hid ((mget eZ 4).getD .nilFunc = .func (.func 223) #[] #[]):=h! (by kernel_rfl)
  clear hI hb
  have HC:=h! (zK (w:=w1) a b)
  go_wp2_with (first | (at_lookup;refine eN (q:=.i64) (z:=.nilFunc) (b:=bm) (mm:=eZ) (y:=4) rfl _ _ _ rfl Tryz.underlying272 Tryz.underlying3 (gO _) rfl HI.out rfl ?_;rw [HG.out]) | (go_at_fn 223;refine HC.out.mono ?_;rintro e w4 ⟨rfl,hb4⟩;have HB4:=h! hb4;clear hb4))
  go_ret2
  exact ⟨rfl,HW.out.trans (HB4.out.mono HW.out.size)⟩
 go_enter Tryz.func201,Tryz.ntmps201
 go_wp2_with fail
 clear hb0
 refine gN.mono ?_
 rintro e w1 ⟨bm,rfl,hI,hb⟩
 have HI:=h! hI
 have HW:=h! hb
 have HG:Hid ((mget eZ 4).getD .nilFunc = .func (.func 223) #[] #[]):=h! (by kernel_rfl)
 clear hI hb
 have HC:=h! (zK (w:=w1) a b)
 go_wp2_with (first | (at_lookup;refine eN (q:=.i64) (z:=.nilFunc) (b:=bm) (mm:=eZ) (y:=4) rfl _ _ _ rfl Tryz.underlying272 Tryz.underlying3 (gO _) rfl HI.out rfl ?_;rw [HG.out]) | (go_at_fn 223;refine HC.out.mono ?_;rintro e w4 ⟨rfl,hb4⟩;have HB4:=h! hb4;clear hb4))
 go_ret2
 exact ⟨rfl,HW.out.trans (HB4.out.mono HW.out.size)⟩
theorem aGH {w:World} (a b:Int):Calls Tryz.prog 201 #[.int .i64 5,.int .i64 a,.int .i64 b] w (TwoR 5 a b w):=by
 have eg1:∀ (args:Array Value) (w:World),(callFunc 224 args).run Tryz.prog w = .ok (.enter 224 args) w:=enters_of Tryz.func224 (by kernel_rfl) rfl
 cases hb0:(b == 0)
 ·go_enter Tryz.func201,Tryz.ntmps201
  go_wp2_with fail
  clear hb0
  refine gN.mono ?_
  rintro e w1 ⟨bm,rfl,hI,hb⟩
  have HI:=h! hI
  have HW:=h! hb
  have HG:Hid ((mget eZ 5).getD .nilFunc = .func (.func 224) #[] #[]):=h! (by kernel_rfl)
  clear hI hb
  have HC:=h! (zL (w:=w1) a b)
  go_wp2_with (first | (at_lookup;refine eN (q:=.i64) (z:=.nilFunc) (b:=bm) (mm:=eZ) (y:=5) rfl _ _ _ rfl Tryz.underlying272 Tryz.underlying3 (gO _) rfl HI.out rfl ?_;rw [HG.out]) | (go_at_fn 224;refine HC.out.mono ?_;rintro e w4 ⟨rfl,hb4⟩;have HB4:=h! hb4;clear hb4))
  go_ret2
  exact ⟨rfl,HW.out.trans (HB4.out.mono HW.out.size)⟩
 go_enter Tryz.func201,Tryz.ntmps201
 go_wp2_with fail
 clear hb0
 refine gN.mono ?_
 rintro e w1 ⟨bm,rfl,hI,hb⟩
 have HI:=h! hI
 have HW:=h! hb
 have HG:Hid ((mget eZ 5).getD .nilFunc = .func (.func 224) #[] #[]):=h! (by kernel_rfl)
 clear hI hb
 have HC:=h! (zL (w:=w1) a b)
 go_wp2_with (first | (at_lookup;refine eN (q:=.i64) (z:=.nilFunc) (b:=bm) (mm:=eZ) (y:=5) rfl _ _ _ rfl Tryz.underlying272 Tryz.underlying3 (gO _) rfl HI.out rfl ?_;rw [HG.out]) | (go_at_fn 224;refine HC.out.mono ?_;rintro e w4 ⟨rfl,hb4⟩;have HB4:=h! hb4;clear hb4))
 go_ret2
 exact ⟨rfl,HW.out.trans (HB4.out.mono HW.out.size)⟩
theorem aGI {w:World} (a b:Int):Calls Tryz.prog 201 #[.int .i64 6,.int .i64 a,.int .i64 b] w (TwoR 6 a b w):=by
 have eg1:∀ (args:Array Value) (w:World),(callFunc 225 args).run Tryz.prog w = .ok (.enter 225 args) w:=enters_of Tryz.func225 (by kernel_rfl) rfl
 cases hb0:(b == 0)
 ·go_enter Tryz.func201,Tryz.ntmps201
  go_wp2_with fail
  clear hb0
  refine gN.mono ?_
  rintro e w1 ⟨bm,rfl,hI,hb⟩
  have HI:=h! hI
  have HW:=h! hb
  have HG:Hid ((mget eZ 6).getD .nilFunc = .func (.func 225) #[] #[]):=h! (by kernel_rfl)
  clear hI hb
  have HC:=h! (zM (w:=w1) a b)
  go_wp2_with (first | (at_lookup;refine eN (q:=.i64) (z:=.nilFunc) (b:=bm) (mm:=eZ) (y:=6) rfl _ _ _ rfl Tryz.underlying272 Tryz.underlying3 (gO _) rfl HI.out rfl ?_;rw [HG.out]) | (go_at_fn 225;refine HC.out.mono ?_;rintro e w4 ⟨rfl,hb4⟩;have HB4:=h! hb4;clear hb4))
  go_ret2
  exact ⟨rfl,HW.out.trans (HB4.out.mono HW.out.size)⟩
 go_enter Tryz.func201,Tryz.ntmps201
 go_wp2_with fail
 clear hb0
 refine gN.mono ?_
 rintro e w1 ⟨bm,rfl,hI,hb⟩
 have HI:=h! hI
 have HW:=h! hb
 have HG:Hid ((mget eZ 6).getD .nilFunc = .func (.func 225) #[] #[]):=h! (by kernel_rfl)
 clear hI hb
 have HC:=h! (zM (w:=w1) a b)
 go_wp2_with (first | (at_lookup;refine eN (q:=.i64) (z:=.nilFunc) (b:=bm) (mm:=eZ) (y:=6) rfl _ _ _ rfl Tryz.underlying272 Tryz.underlying3 (gO _) rfl HI.out rfl ?_;rw [HG.out]) | (go_at_fn 225;refine HC.out.mono ?_;rintro e w4 ⟨rfl,hb4⟩;have HB4:=h! hb4;clear hb4))
 go_ret2
 exact ⟨rfl,HW.out.trans (HB4.out.mono HW.out.size)⟩
theorem aH5 {w:World} (a b:Int):Calls Tryz.prog 201 #[.int .i64 7,.int .i64 a,.int .i64 b] w (TwoR 7 a b w):=by
 have eg1:∀ (args:Array Value) (w:World),(callFunc 226 args).run Tryz.prog w = .ok (.enter 226 args) w:=enters_of Tryz.func226 (by kernel_rfl) rfl
 cases hb0:(b == 0)
 ·go_enter Tryz.func201,Tryz.ntmps201
  go_wp2_with fail
  clear hb0
  refine gN.mono ?_
  rintro e w1 ⟨bm,rfl,hI,hb⟩
  have HI:=h! hI
  have HW:=h! hb
  have HG:Hid ((mget eZ 7).getD .nilFunc = .func (.func 226) #[] #[]):=h! (by kernel_rfl)
  clear hI hb
  have HC:=h! (aC7 (w:=w1) a b)
  go_wp2_with (first | (at_lookup;refine eN (q:=.i64) (z:=.nilFunc) (b:=bm) (mm:=eZ) (y:=7) rfl _ _ _ rfl Tryz.underlying272 Tryz.underlying3 (gO _) rfl HI.out rfl ?_;rw [HG.out]) | (go_at_fn 226;refine HC.out.mono ?_;rintro e w4 ⟨rfl,hb4⟩;have HB4:=h! hb4;clear hb4))
  go_ret2
  exact ⟨rfl,HW.out.trans (HB4.out.mono HW.out.size)⟩
 go_enter Tryz.func201,Tryz.ntmps201
 go_wp2_with fail
 clear hb0
 refine gN.mono ?_
 rintro e w1 ⟨bm,rfl,hI,hb⟩
 have HI:=h! hI
 have HW:=h! hb
 have HG:Hid ((mget eZ 7).getD .nilFunc = .func (.func 226) #[] #[]):=h! (by kernel_rfl)
 clear hI hb
 have HC:=h! (aC7 (w:=w1) a b)
 go_wp2_with (first | (at_lookup;refine eN (q:=.i64) (z:=.nilFunc) (b:=bm) (mm:=eZ) (y:=7) rfl _ _ _ rfl Tryz.underlying272 Tryz.underlying3 (gO _) rfl HI.out rfl ?_;rw [HG.out]) | (go_at_fn 226;refine HC.out.mono ?_;rintro e w4 ⟨rfl,hb4⟩;have HB4:=h! hb4;clear hb4))
 go_ret2
 exact ⟨rfl,HW.out.trans (HB4.out.mono HW.out.size)⟩
theorem aGJ {w:World} (a b:Int):Calls Tryz.prog 201 #[.int .i64 8,.int .i64 a,.int .i64 b] w (TwoR 8 a b w):=by
 have eg1:∀ (args:Array Value) (w:World),(callFunc 227 args).run Tryz.prog w = .ok (.enter 227 args) w:=enters_of Tryz.func227 (by kernel_rfl) rfl
 cases hb0:(b == 0)
 ·go_enter Tryz.func201,Tryz.ntmps201
  go_wp2_with fail
  clear hb0
  refine gN.mono ?_
  rintro e w1 ⟨bm,rfl,hI,hb⟩
  have HI:=h! hI
  have HW:=h! hb
  have HG:Hid ((mget eZ 8).getD .nilFunc = .func (.func 227) #[] #[]):=h! (by kernel_rfl)
  clear hI hb
  have HC:=h! (zN (w:=w1) a b)
  go_wp2_with (first | (at_lookup;refine eN (q:=.i64) (z:=.nilFunc) (b:=bm) (mm:=eZ) (y:=8) rfl _ _ _ rfl Tryz.underlying272 Tryz.underlying3 (gO _) rfl HI.out rfl ?_;rw [HG.out]) | (go_at_fn 227;refine HC.out.mono ?_;rintro e w4 ⟨rfl,hb4⟩;have HB4:=h! hb4;clear hb4))
  go_ret2
  exact ⟨rfl,HW.out.trans (HB4.out.mono HW.out.size)⟩
 go_enter Tryz.func201,Tryz.ntmps201
 go_wp2_with fail
 clear hb0
 refine gN.mono ?_
 rintro e w1 ⟨bm,rfl,hI,hb⟩
 have HI:=h! hI
 have HW:=h! hb
 have HG:Hid ((mget eZ 8).getD .nilFunc = .func (.func 227) #[] #[]):=h! (by kernel_rfl)
 clear hI hb
 have HC:=h! (zN (w:=w1) a b)
 go_wp2_with (first | (at_lookup;refine eN (q:=.i64) (z:=.nilFunc) (b:=bm) (mm:=eZ) (y:=8) rfl _ _ _ rfl Tryz.underlying272 Tryz.underlying3 (gO _) rfl HI.out rfl ?_;rw [HG.out]) | (go_at_fn 227;refine HC.out.mono ?_;rintro e w4 ⟨rfl,hb4⟩;have HB4:=h! hb4;clear hb4))
 go_ret2
 exact ⟨rfl,HW.out.trans (HB4.out.mono HW.out.size)⟩
theorem aGK {w:World} (a b:Int):Calls Tryz.prog 201 #[.int .i64 9,.int .i64 a,.int .i64 b] w (TwoR 9 a b w):=by
 have eg1:∀ (args:Array Value) (w:World),(callFunc 228 args).run Tryz.prog w = .ok (.enter 228 args) w:=enters_of Tryz.func228 (by kernel_rfl) rfl
 cases hb0:(b == 0)
 ·go_enter Tryz.func201,Tryz.ntmps201
  go_wp2_with fail
  clear hb0
  refine gN.mono ?_
  rintro e w1 ⟨bm,rfl,hI,hb⟩
  have HI:=h! hI
  have HW:=h! hb
  have HG:Hid ((mget eZ 9).getD .nilFunc = .func (.func 228) #[] #[]):=h! (by kernel_rfl)
  clear hI hb
  have HC:=h! (zO (w:=w1) a b)
  go_wp2_with (first | (at_lookup;refine eN (q:=.i64) (z:=.nilFunc) (b:=bm) (mm:=eZ) (y:=9) rfl _ _ _ rfl Tryz.underlying272 Tryz.underlying3 (gO _) rfl HI.out rfl ?_;rw [HG.out]) | (go_at_fn 228;refine HC.out.mono ?_;rintro e w4 ⟨rfl,hb4⟩;have HB4:=h! hb4;clear hb4))
  go_ret2
  exact ⟨rfl,HW.out.trans (HB4.out.mono HW.out.size)⟩
 go_enter Tryz.func201,Tryz.ntmps201
 go_wp2_with fail
 clear hb0
 refine gN.mono ?_
 rintro e w1 ⟨bm,rfl,hI,hb⟩
 have HI:=h! hI
 have HW:=h! hb
 have HG:Hid ((mget eZ 9).getD .nilFunc = .func (.func 228) #[] #[]):=h! (by kernel_rfl)
 clear hI hb
 have HC:=h! (zO (w:=w1) a b)
 go_wp2_with (first | (at_lookup;refine eN (q:=.i64) (z:=.nilFunc) (b:=bm) (mm:=eZ) (y:=9) rfl _ _ _ rfl Tryz.underlying272 Tryz.underlying3 (gO _) rfl HI.out rfl ?_;rw [HG.out]) | (go_at_fn 228;refine HC.out.mono ?_;rintro e w4 ⟨rfl,hb4⟩;have HB4:=h! hb4;clear hb4))
 go_ret2
 exact ⟨rfl,HW.out.trans (HB4.out.mono HW.out.size)⟩
theorem aGL {w:World} (a b:Int):Calls Tryz.prog 201 #[.int .i64 10,.int .i64 a,.int .i64 b] w (TwoR 10 a b w):=by
 have eg1:∀ (args:Array Value) (w:World),(callFunc 229 args).run Tryz.prog w = .ok (.enter 229 args) w:=enters_of Tryz.func229 (by kernel_rfl) rfl
 cases hb0:(b == 0)
 ·go_enter Tryz.func201,Tryz.ntmps201
  go_wp2_with fail
  clear hb0
  refine gN.mono ?_
  rintro e w1 ⟨bm,rfl,hI,hb⟩
  have HI:=h! hI
  have HW:=h! hb
  have HG:Hid ((mget eZ 10).getD .nilFunc = .func (.func 229) #[] #[]):=h! (by kernel_rfl)
  clear hI hb
  have HC:=h! (zP (w:=w1) a b)
  go_wp2_with (first | (at_lookup;refine eN (q:=.i64) (z:=.nilFunc) (b:=bm) (mm:=eZ) (y:=10) rfl _ _ _ rfl Tryz.underlying272 Tryz.underlying3 (gO _) rfl HI.out rfl ?_;rw [HG.out]) | (go_at_fn 229;refine HC.out.mono ?_;rintro e w4 ⟨rfl,hb4⟩;have HB4:=h! hb4;clear hb4))
  go_ret2
  exact ⟨rfl,HW.out.trans (HB4.out.mono HW.out.size)⟩
 go_enter Tryz.func201,Tryz.ntmps201
 go_wp2_with fail
 clear hb0
 refine gN.mono ?_
 rintro e w1 ⟨bm,rfl,hI,hb⟩
 have HI:=h! hI
 have HW:=h! hb
 have HG:Hid ((mget eZ 10).getD .nilFunc = .func (.func 229) #[] #[]):=h! (by kernel_rfl)
 clear hI hb
 have HC:=h! (zP (w:=w1) a b)
 go_wp2_with (first | (at_lookup;refine eN (q:=.i64) (z:=.nilFunc) (b:=bm) (mm:=eZ) (y:=10) rfl _ _ _ rfl Tryz.underlying272 Tryz.underlying3 (gO _) rfl HI.out rfl ?_;rw [HG.out]) | (go_at_fn 229;refine HC.out.mono ?_;rintro e w4 ⟨rfl,hb4⟩;have HB4:=h! hb4;clear hb4))
 go_ret2
 exact ⟨rfl,HW.out.trans (HB4.out.mono HW.out.size)⟩
theorem aH6 {w:World} (a b:Int):Calls Tryz.prog 201 #[.int .i64 13,.int .i64 a,.int .i64 b] w (TwoR 13 a b w):=by
 have eg1:∀ (args:Array Value) (w:World),(callFunc 232 args).run Tryz.prog w = .ok (.enter 232 args) w:=enters_of Tryz.func232 (by kernel_rfl) rfl
 cases hb0:(b == 0)
 ·go_enter Tryz.func201,Tryz.ntmps201
  go_wp2_with fail
  clear hb0
  refine gN.mono ?_
  rintro e w1 ⟨bm,rfl,hI,hb⟩
  have HI:=h! hI
  have HW:=h! hb
  have HG:Hid ((mget eZ 13).getD .nilFunc = .func (.func 232) #[] #[]):=h! (by kernel_rfl)
  clear hI hb
  have HC:=h! (aC8 (w:=w1) a b)
  go_wp2_with (first | (at_lookup;refine eN (q:=.i64) (z:=.nilFunc) (b:=bm) (mm:=eZ) (y:=13) rfl _ _ _ rfl Tryz.underlying272 Tryz.underlying3 (gO _) rfl HI.out rfl ?_;rw [HG.out]) | (go_at_fn 232;refine HC.out.mono ?_;rintro e w4 ⟨rfl,hb4⟩;have HB4:=h! hb4;clear hb4))
  go_ret2
  exact ⟨rfl,HW.out.trans (HB4.out.mono HW.out.size)⟩
 go_enter Tryz.func201,Tryz.ntmps201
 go_wp2_with fail
 clear hb0
 refine gN.mono ?_
 rintro e w1 ⟨bm,rfl,hI,hb⟩
 have HI:=h! hI
 have HW:=h! hb
 have HG:Hid ((mget eZ 13).getD .nilFunc = .func (.func 232) #[] #[]):=h! (by kernel_rfl)
 clear hI hb
 have HC:=h! (aC8 (w:=w1) a b)
 go_wp2_with (first | (at_lookup;refine eN (q:=.i64) (z:=.nilFunc) (b:=bm) (mm:=eZ) (y:=13) rfl _ _ _ rfl Tryz.underlying272 Tryz.underlying3 (gO _) rfl HI.out rfl ?_;rw [HG.out]) | (go_at_fn 232;refine HC.out.mono ?_;rintro e w4 ⟨rfl,hb4⟩;have HB4:=h! hb4;clear hb4))
 go_ret2
 exact ⟨rfl,HW.out.trans (HB4.out.mono HW.out.size)⟩
theorem aH7 {w:World} (a b:Int):Calls Tryz.prog 201 #[.int .i64 14,.int .i64 a,.int .i64 b] w (TwoR 14 a b w):=by
 have eg1:∀ (args:Array Value) (w:World),(callFunc 233 args).run Tryz.prog w = .ok (.enter 233 args) w:=enters_of Tryz.func233 (by kernel_rfl) rfl
 cases hb0:(b == 0)
 ·go_enter Tryz.func201,Tryz.ntmps201
  go_wp2_with fail
  clear hb0
  refine gN.mono ?_
  rintro e w1 ⟨bm,rfl,hI,hb⟩
  have HI:=h! hI
  have HW:=h! hb
  have HG:Hid ((mget eZ 14).getD .nilFunc = .func (.func 233) #[] #[]):=h! (by kernel_rfl)
  clear hI hb
  have HC:=h! (aC9 (w:=w1) a b)
  go_wp2_with (first | (at_lookup;refine eN (q:=.i64) (z:=.nilFunc) (b:=bm) (mm:=eZ) (y:=14) rfl _ _ _ rfl Tryz.underlying272 Tryz.underlying3 (gO _) rfl HI.out rfl ?_;rw [HG.out]) | (go_at_fn 233;refine HC.out.mono ?_;rintro e w4 ⟨rfl,hb4⟩;have HB4:=h! hb4;clear hb4))
  go_ret2
  exact ⟨rfl,HW.out.trans (HB4.out.mono HW.out.size)⟩
 go_enter Tryz.func201,Tryz.ntmps201
 go_wp2_with fail
 clear hb0
 refine gN.mono ?_
 rintro e w1 ⟨bm,rfl,hI,hb⟩
 have HI:=h! hI
 have HW:=h! hb
 have HG:Hid ((mget eZ 14).getD .nilFunc = .func (.func 233) #[] #[]):=h! (by kernel_rfl)
 clear hI hb
 have HC:=h! (aC9 (w:=w1) a b)
 go_wp2_with (first | (at_lookup;refine eN (q:=.i64) (z:=.nilFunc) (b:=bm) (mm:=eZ) (y:=14) rfl _ _ _ rfl Tryz.underlying272 Tryz.underlying3 (gO _) rfl HI.out rfl ?_;rw [HG.out]) | (go_at_fn 233;refine HC.out.mono ?_;rintro e w4 ⟨rfl,hb4⟩;have HB4:=h! hb4;clear hb4))
 go_ret2
 exact ⟨rfl,HW.out.trans (HB4.out.mono HW.out.size)⟩
theorem aBZ {w:World} (a b:Int):Calls Tryz.prog 201 #[.int .i64 15,.int .i64 a,.int .i64 b] w (TwoR 15 a b w):=by
 have eg1:∀ (args:Array Value) (w:World),(callFunc 234 args).run Tryz.prog w = .ok (.enter 234 args) w:=enters_of Tryz.func234 (by kernel_rfl) rfl
 cases hb0:(b == 0)
 ·go_enter Tryz.func201,Tryz.ntmps201
  go_wp2_with fail
  clear hb0
  refine gN.mono ?_
  rintro e w1 ⟨bm,rfl,hI,hb⟩
  have HI:=h! hI
  have HW:=h! hb
  have HG:Hid ((mget eZ 15).getD .nilFunc = .func (.func 234) #[] #[]):=h! (by kernel_rfl)
  clear hI hb
  have HC:=h! (rN (w:=w1) a b)
  go_wp2_with (first | (at_lookup;refine eN (q:=.i64) (z:=.nilFunc) (b:=bm) (mm:=eZ) (y:=15) rfl _ _ _ rfl Tryz.underlying272 Tryz.underlying3 (gO _) rfl HI.out rfl ?_;rw [HG.out]) | (go_at_fn 234;refine HC.out.mono ?_;rintro e w4 ⟨rfl,hb4⟩;have HB4:=h! hb4;clear hb4))
  go_ret2
  exact ⟨rfl,HW.out.trans (HB4.out.mono HW.out.size)⟩
 go_enter Tryz.func201,Tryz.ntmps201
 go_wp2_with fail
 clear hb0
 refine gN.mono ?_
 rintro e w1 ⟨bm,rfl,hI,hb⟩
 have HI:=h! hI
 have HW:=h! hb
 have HG:Hid ((mget eZ 15).getD .nilFunc = .func (.func 234) #[] #[]):=h! (by kernel_rfl)
 clear hI hb
 have HC:=h! (rN (w:=w1) a b)
 go_wp2_with (first | (at_lookup;refine eN (q:=.i64) (z:=.nilFunc) (b:=bm) (mm:=eZ) (y:=15) rfl _ _ _ rfl Tryz.underlying272 Tryz.underlying3 (gO _) rfl HI.out rfl ?_;rw [HG.out]) | (go_at_fn 234;refine HC.out.mono ?_;rintro e w4 ⟨rfl,hb4⟩;have HB4:=h! hb4;clear hb4))
 go_ret2
 exact ⟨rfl,HW.out.trans (HB4.out.mono HW.out.size)⟩
theorem aGM {w:World} (a b:Int) (hb:¬ b=0):Calls Tryz.prog 201 #[.int .i64 11,.int .i64 a,.int .i64 b] w (TwoR 11 a b w):=by
 have eg1:∀ (args:Array Value) (w:World),(callFunc 230 args).run Tryz.prog w = .ok (.enter 230 args) w:=enters_of Tryz.func230 (by kernel_rfl) rfl
 have hb0:(b == 0)=false:=by simpa using hb
 have HB:=h! hb
 clear hb
 go_enter Tryz.func201,Tryz.ntmps201
 go_wp2_with fail
 clear hb0
 refine gN.mono ?_
 rintro e w1 ⟨bm,rfl,hI,hb⟩
 have HI:=h! hI
 have HW:=h! hb
 have HG:Hid ((mget eZ 11).getD .nilFunc = .func (.func 230) #[] #[]):=h! (by kernel_rfl)
 clear hI hb
 have HC:=h! (aEG (w:=w1) a b HB.out)
 go_wp2_with (first | (at_lookup;refine eN (q:=.i64) (z:=.nilFunc) (b:=bm) (mm:=eZ) (y:=11) rfl _ _ _ rfl Tryz.underlying272 Tryz.underlying3 (gO _) rfl HI.out rfl ?_;rw [HG.out]) | (go_at_fn 230;refine HC.out.mono ?_;rintro e w4 ⟨rfl,hb4⟩;have HB4:=h! hb4;clear hb4))
 go_ret2
 exact ⟨rfl,HW.out.trans (HB4.out.mono HW.out.size)⟩
theorem aEE {w:World} (a:Int):Calls Tryz.prog 201 #[.int .i64 11,.int .i64 a,.int .i64 0] w fun e w'=>e = .returned (.tuple #[.int .i64 0,.int .i64 9])/\Below w.heap.size w w':=by
 go_enter Tryz.func201,Tryz.ntmps201
 go_wp2
 go_ret2
 exact ⟨rfl,Below.refl _ _⟩
theorem aGN {w:World} (a b:Int) (hb:¬ b=0):Calls Tryz.prog 201 #[.int .i64 12,.int .i64 a,.int .i64 b] w (TwoR 12 a b w):=by
 have eg1:∀ (args:Array Value) (w:World),(callFunc 231 args).run Tryz.prog w = .ok (.enter 231 args) w:=enters_of Tryz.func231 (by kernel_rfl) rfl
 have hb0:(b == 0)=false:=by simpa using hb
 have HB:=h! hb
 clear hb
 go_enter Tryz.func201,Tryz.ntmps201
 go_wp2_with fail
 clear hb0
 refine gN.mono ?_
 rintro e w1 ⟨bm,rfl,hI,hb⟩
 have HI:=h! hI
 have HW:=h! hb
 have HG:Hid ((mget eZ 12).getD .nilFunc = .func (.func 231) #[] #[]):=h! (by kernel_rfl)
 clear hI hb
 have HC:=h! (aEH (w:=w1) a b HB.out)
 go_wp2_with (first | (at_lookup;refine eN (q:=.i64) (z:=.nilFunc) (b:=bm) (mm:=eZ) (y:=12) rfl _ _ _ rfl Tryz.underlying272 Tryz.underlying3 (gO _) rfl HI.out rfl ?_;rw [HG.out]) | (go_at_fn 231;refine HC.out.mono ?_;rintro e w4 ⟨rfl,hb4⟩;have HB4:=h! hb4;clear hb4))
 go_ret2
 exact ⟨rfl,HW.out.trans (HB4.out.mono HW.out.size)⟩
theorem aEF {w:World} (a:Int):Calls Tryz.prog 201 #[.int .i64 12,.int .i64 a,.int .i64 0] w fun e w'=>e = .returned (.tuple #[.int .i64 0,.int .i64 9])/\Below w.heap.size w w':=by
 go_enter Tryz.func201,Tryz.ntmps201
 go_wp2
 go_ret2
 exact ⟨rfl,Below.refl _ _⟩
def twoV (op a b:Int):Int:=if (op=11 \/ op=12)/\b=0 then 0 else fH op a b
def twoE (op b:Int):Int:=if (op=11 \/ op=12)/\b=0 then 9 else 0
theorem twoC {w:World} (op a b:Int) (h:3 <= op/\op <= 15):Calls Tryz.prog 201 #[.int .i64 op,.int .i64 a,.int .i64 b] w fun e w'=>e = .returned (.tuple #[.int .i64 (twoV op a b),.int .i64 (twoE op b)])/\Below w.heap.size w w':=by
 have hop:op=3 \/ op=4 \/ op=5 \/ op=6 \/ op=7 \/ op=8 \/ op=9 \/ op=10 \/ op=11 \/ op=12 \/ op=13 \/ op=14 \/ op=15:=by omega
 have key:∀ op, ¬ ((op=11 \/ op=12)/\b=0) -> twoV op a b=fH op a b/\twoE op b=0:=fun op h=>⟨by unfold twoV;rw [if_neg h],by unfold twoE;rw [if_neg h]⟩
 have key0:∀ op,((op=11 \/ op=12)/\b=0) -> twoV op a b=0/\twoE op b=9:=fun op h=>⟨by unfold twoV;rw [if_pos h],by unfold twoE;rw [if_pos h]⟩
 rcases hop with rfl | rfl | rfl | rfl | rfl | rfl | rfl | rfl | rfl | rfl | rfl | rfl | rfl
 ·rw [(key 3 (by omega)).1,(key 3 (by omega)).2];exact aGF a b
 ·rw [(key 4 (by omega)).1,(key 4 (by omega)).2];exact aGG a b
 ·rw [(key 5 (by omega)).1,(key 5 (by omega)).2];exact aGH a b
 ·rw [(key 6 (by omega)).1,(key 6 (by omega)).2];exact aGI a b
 ·rw [(key 7 (by omega)).1,(key 7 (by omega)).2];exact aH5 a b
 ·rw [(key 8 (by omega)).1,(key 8 (by omega)).2];exact aGJ a b
 ·rw [(key 9 (by omega)).1,(key 9 (by omega)).2];exact aGK a b
 ·rw [(key 10 (by omega)).1,(key 10 (by omega)).2];exact aGL a b
 ·by_cases hb:b=0
  ·rw [(key0 11 ⟨by omega,hb⟩).1,(key0 11 ⟨by omega,hb⟩).2,hb];exact aEE a
  rw [(key 11 (by omega)).1,(key 11 (by omega)).2];exact aGM a b hb
 ·by_cases hb:b=0
  ·rw [(key0 12 ⟨by omega,hb⟩).1,(key0 12 ⟨by omega,hb⟩).2,hb];exact aEF a
  rw [(key 12 (by omega)).1,(key 12 (by omega)).2];exact aGN a b hb
 ·rw [(key 13 (by omega)).1,(key 13 (by omega)).2];exact aH6 a b
 ·rw [(key 14 (by omega)).1,(key 14 (by omega)).2];exact aH7 a b
 rw [(key 15 (by omega)).1,(key 15 (by omega)).2];exact aBZ a b
theorem fK {W:World} {v:Value} {xs:List Int} (h:Ints W v xs) (hp:0 < xs.length):∃ (b o c:Nat),v = .slice (some ⟨b,o,none⟩) xs.length c/\b < W.heap.size /\ ∀ i,i < xs.length -> W.cell? ⟨b,o+i,none⟩=some (.int .i64 (xs.getD i 0)):=by
 obtain ⟨a,c,b,o,rfl,_,_,ha,hx⟩:=h.parts
 obtain ⟨rfl,hb⟩:=ha hp
 exact ⟨b,o,c,rfl,hb,hx⟩
def aB0 (op:Int) (xs:List Int) (w:World) (e:Ending) (w' : World):Prop:=e = .returned (.tuple #[.int .i64 (lK op xs),.int .i64 (nB op xs)])/\Below w.heap.size w w'
theorem lR {op:Int} {xs:List Int} (h:op < 3 \/ 17 < op \/ xs.length ≠ iC op):lK op xs=0/\nB op xs=1:=⟨by unfold lK;rw [if_pos h],by unfold nB;rw [if_pos h]⟩
theorem aH8 {w:World} {op:Int} {v:Value} {xs:List Int} (hv:Ints w v xs):Calls Tryz.prog 157 #[.int .i64 op,v] w (aB0 op xs w):=by
 obtain ⟨a0,c0,rfl⟩:=hv.form
 obtain ⟨n,hn⟩ : ∃ n,n=xs.length:=⟨_,rfl⟩
 have HX:=h! hv
 rw [<-hn] at HX ⊢
 have HN:=h! hn
 clear hv hn
 by_cases h16:op=16
 ·subst h16
  by_cases h1:n=1
  ·subst h1
   obtain ⟨b,o,c,he,hb,hc⟩:=fK HX.out (by rw [<-HN.out];omega)
   rw [<-HN.out] at he
   cases he
   have hc0:=hc 0 (by rw [<-HN.out];omega)
   rw [bW] at hc0
   have HV:Hid (lK 16 xs=iT (xs.getD 0 0 == 0)/\nB 16 xs=0):=h! (by
    have h9:¬ ((16:Int) < 3 \/ (17:Int) < 16 \/ xs.length ≠ iC 16):=by rw [<-HN.out];simp [iC]
    unfold lK nB
    rw [if_neg h9,if_neg h9];simp)
   clear hc
   go_enter Tryz.func157,Tryz.ntmps157
   go_wp2_with fail
   refine (zI _).mono ?_
   rintro e w1 ⟨rfl,hb1⟩
   go_wp2
   go_ret2
   exact ⟨by rw [HV.out.1,HV.out.2];rfl,hb1⟩
  have HV:=h! (lR (op:=16) (xs:=xs) (by rw [<-HN.out];right;right;simpa [iC] using h1))
  have ht:(((n:Nat):Int) != 1)=true:=by simp;omega
  clear h1
  go_enter Tryz.func157,Tryz.ntmps157
  go_wp2
  go_ret2
  exact ⟨by rw [HV.out.1,HV.out.2];rfl,Below.refl _ _⟩
 by_cases h17:op=17
 ·subst h17
  by_cases h1:n=3
  ·subst h1
   obtain ⟨b,o,c,he,hb,hc⟩:=fK HX.out (by rw [<-HN.out];omega)
   rw [<-HN.out] at he
   cases he
   have hc0:=hc 0 (by rw [<-HN.out];omega)
   have hc1:=hc 1 (by rw [<-HN.out];omega)
   have hc2:=hc 2 (by rw [<-HN.out];omega)
   rw [bW] at hc0
   have HV:Hid (lK 17 xs=(if xs.getD 0 0 ≠ 0 then xs.getD 1 0 else xs.getD 2 0)/\nB 17 xs=0):=h! (by
    have h9:¬ ((17:Int) < 3 \/ (17:Int) < 17 \/ xs.length ≠ iC 17):=by rw [<-HN.out];simp [iC]
    unfold lK nB
    rw [if_neg h9,if_neg h9];simp)
   clear hc
   generalize xs.getD 0 0=x0 at *
   generalize xs.getD 1 0=x1 at *
   generalize xs.getD 2 0=x2 at *
   cases hq:(x0 != 0)
   ·have hq0:x0=0:=by simpa using hq
    have HQ:Hid (¬ x0 ≠ 0):=h! (by simp [hq0])
    clear hq0
    go_enter Tryz.func157,Tryz.ntmps157
    go_wp2
    go_ret2
    exact ⟨by rw [HV.out.1,HV.out.2,if_neg HQ.out];rfl,Below.refl _ _⟩
   have HQ:Hid (x0 ≠ 0):=h! (by simpa using hq)
   go_enter Tryz.func157,Tryz.ntmps157
   go_wp2
   go_ret2
   exact ⟨by rw [HV.out.1,HV.out.2,if_pos HQ.out];rfl,Below.refl _ _⟩
  have HV:=h! (lR (op:=17) (xs:=xs) (by rw [<-HN.out];right;right;simpa [iC] using h1))
  have ht:(((n:Nat):Int) != 3)=true:=by simp;omega
  clear h1
  go_enter Tryz.func157,Tryz.ntmps157
  go_wp2
  go_ret2
  exact ⟨by rw [HV.out.1,HV.out.2];rfl,Below.refl _ _⟩
 have e16:(op == 16)=false:=by simpa using h16
 have e17:(op == 17)=false:=by simpa using h17
 have HW2:Hid (iC op=2):=h! (by unfold iC;rw [if_neg h16,if_neg h17])
 cases hl:decide (op < 3)
 rotate_left
 ·have HV:=h! (lR (op:=op) (xs:=xs) (.inl (by simpa using hl)))
  clear h16 h17
  go_enter Tryz.func157,Tryz.ntmps157
  go_wp2
  go_ret2
  exact ⟨by rw [HV.out.1,HV.out.2];rfl,Below.refl _ _⟩
 cases hg:decide (17 < op)
 rotate_left
 ·have HV:=h! (lR (op:=op) (xs:=xs) (.inr (.inl (by simpa using hg))))
  clear h16 h17
  go_enter Tryz.func157,Tryz.ntmps157
  go_wp2
  go_ret2
  exact ⟨by rw [HV.out.1,HV.out.2];rfl,Below.refl _ _⟩
 cases h2:((n:Int) != 2)
 rotate_left
 ·have HV:=h! (lR (op:=op) (xs:=xs) (.inr (.inr (by rw [HW2.out, <-HN.out];simp at h2;omega))))
  clear h16 h17
  go_enter Tryz.func157,Tryz.ntmps157
  go_wp2
  go_ret2
  exact ⟨by rw [HV.out.1,HV.out.2];rfl,Below.refl _ _⟩
 have hn2:n=2:=by simp at h2;omega
 subst hn2
 have HOP:Hid (3 <= op/\op <= 15):=h! (by simp at hl hg;omega)
 obtain ⟨b,o,c,he,hb,hc⟩:=fK HX.out (by rw [<-HN.out];omega)
 rw [<-HN.out] at he
 cases he
 have hc0:=hc 0 (by rw [<-HN.out];omega)
 have hc1:=hc 1 (by rw [<-HN.out];omega)
 rw [bW] at hc0
 have HV:Hid (lK op xs=twoV op (xs.getD 0 0) (xs.getD 1 0)/\nB op xs=twoE op (xs.getD 1 0)):=h! (by
  have h9:¬ (op < 3 \/ 17 < op \/ xs.length ≠ iC op):=by rw [HW2.out, <-HN.out];have:=HOP.out;omega
  unfold lK nB twoV twoE
  rw [if_neg h9,if_neg h9,if_neg h16,if_neg h17,if_neg h16,if_neg h17]
  exact ⟨rfl,rfl⟩)
 obtain ⟨x,hx⟩ : ∃ x,x=xs.getD 0 0:=⟨_,rfl⟩
 obtain ⟨y,hy⟩ : ∃ y,y=xs.getD 1 0:=⟨_,rfl⟩
 rw [<-hx] at hc0 HV
 rw [<-hy] at hc1 HV
 have HC:Hid (∀ W,Below w.heap.size w W -> W.cell? ⟨b,o,none⟩=some (.int .i64 x)/\W.cell? ⟨b,o+1,none⟩=some (.int .i64 y)):=h! (fun W h=>⟨(h.cell (p:=⟨b,o,none⟩) hb).trans hc0,(h.cell (p:=⟨b,o+1,none⟩) hb).trans hc1⟩)
 have HW:=h! (Below.refl w.heap.size w)
 clear hc hc0 hc1 h16 h17 hx hy h2
 have h2' : ((2:Int) != 2)=false:=rfl
 go_enter Tryz.func157,Tryz.ntmps157
 go_upto_region 16 with (fail)
 refine wp_region_grow 12 (fun kz=>match kz with | 7=>.const (.tuple #[.int .i64 (twoV op x y),.int .i64 (twoE op y)]) | _=>.plain) (by kernel_rfl) (by kernel_rfl) ?_ (fun ν => ?_)
 ·(intro k;(try dsimp only);split <;> first | exact True.intro | (intro u w1 w2 hu hb;exact hu.below hb))
 simp only [aK,aR,aM,aT]
 iterate 7 (refine Grow.val (v := ?_) rfl rfl (fun wg hbg hdg => ?_) ?_;rotate_left;(focus ((obtain ⟨g0,g1⟩:=HC.out wg hbg);clear hbg hdg;first | (go_simp;done) | (go_simp;with_reducible rfl)));simp only [Act.put,aA,aC,aD])
 refine Grow.call (f := ?_) (args := ?_) rfl (fun wg => ?_) (fun wg hbg hdg => ?_) ?_
 rotate_left 2
 focus (first | (go_simp;done) | (go_simp;refine And.intro ?_ ?_ <;> with_reducible rfl) | (go_simp;with_reducible rfl))
 focus exact Calls.mono ((twoC op x y HOP.out)) (fun e w2 ⟨he,hb2⟩=>⟨_,he,rfl,hb2⟩)
 simp only [Act.put,Known.val,aA,aC,aD]
 iterate 4 (refine Grow.val (v := ?_) rfl rfl (fun wg hbg hdg => ?_) ?_;rotate_left;(focus ((obtain ⟨g0,g1⟩:=HC.out wg hbg);clear hbg hdg;first | (go_simp;done) | (go_simp;with_reducible rfl)));simp only [Act.put,aA,aC,aD])
 intro wg hb hf hap
 clear hap
 replace HW:=h! (HW.out.trans (hb.mono HW.out.size))
 clear hb
 clear hf
 go_wp2
 go_ret2
 exact ⟨by rw [HV.out.1,HV.out.2];rfl,HW.out⟩
end
section
open Go.RowKit
def mY (W:World) (v:Value) (x:InstrD):Prop := ∃ u,v = .agg #[.int .i64 x.op,.int .i64 x.id,u,.int .i64 x.n]/\Ints W u x.args
theorem mY.below {W W' : World} {v:Value} {x:InstrD} (h:mY W v x) (hb:Below W.heap.size W W'):mY W' v x:=let ⟨u,e,k⟩:=h; ⟨u,e,k.below hb⟩
structure RunOk (ar ce:Int) (s:RunS):Prop where
 al:s.arrays.length=ar.toNat
 cl:s.cells.length=ce.toNat
 len:∀ a ∈ s.arrays,a.length <= 4096
 out:s.out.length <= 4096
 chk:s.checks <= 200000
structure InsOk (ar ce:Int) (x:InstrD):Prop where
 shp:(shp x.op).isSome=true
 args:x.args.length=(shp0 x.op).args.length
 n:nOk ar ce (shp0 x.op).n x.n=true
theorem mI {ar ce n:Int} (h:nOk ar ce 3 n=true):0 <= n/\n < ar:=by
 unfold nOk topN at h
 simp at h
 omega
theorem vE {ar ce n:Int} (h:nOk ar ce 4 n=true):0 <= n/\n < ce:=by
 unfold nOk topN at h
 simp at h
 omega
theorem qR {op:Int} (h:(shp op).isSome=true):op=1 \/ op=2 \/ op=18 \/ op=19 \/ op=21 \/ op=20 \/ op=22 \/ op=23 \/ op=24 \/ op=25 \/ (3 <= op/\op <= 17):=by
 refine Classical.byContradiction fun hn => ?_
 unfold shp at h
 rw [if_neg (by omega),if_neg (by omega),if_neg (by omega),if_neg (by omega),if_neg (by omega),if_neg (by omega),if_neg (by omega),if_neg (by omega),if_neg (by omega),if_neg (by omega),if_neg (by omega),if_neg (by omega)] at h
 cases h
theorem aAK (op:Int):(shp0 op).args.length <= 3:=by
 have key:∀ (c:Prop) [Decidable c] (a b:Option Shp),(a.getD ⟨0,[],0⟩).args.length <= 3 -> (b.getD ⟨0,[],0⟩).args.length <= 3 -> ((if c then a else b).getD ⟨0,[],0⟩).args.length <= 3:=by
  intro c _ a b ha hb
  split
  ·exact ha
  exact hb
 unfold shp0 shp
 iterate 12 (refine key _ _ _ (by decide) ?_)
 decide
theorem rZ {op id n:Int} {args:List Int} {s:RunS} (h:op=18) {nn:Nat} (hn:n=nn) {a:List Int} (ha:s.arrays[nn]? = some a):fA ⟨op,id,args,n⟩ s = .go a.length s:=by
 subst h;subst hn
 unfold fA
 simp [aH,ha]
theorem sA {op n i:Int} {s:RunS} {nn:Nat} (hn:n=nn) {a:List Int} (ha:s.arrays[nn]? = some a) (h:i < 0 \/ (a.length:Int) <= i):mK op n i s = .over (aA5 op) (fY op s):=by
 subst hn
 unfold mK
 rw [if_pos]
 simpa [List.getD_eq_getElem?_getD,ha] using h
theorem aAL {op n i:Int} {s:RunS} {nn:Nat} (hn:n=nn) {a:List Int} (ha:s.arrays[nn]? = some a) (h:¬ (i < 0 \/ (a.length:Int) <= i)):mK op n i s = .go () (fY op s):=by
 subst hn
 unfold mK
 rw [if_neg]
 simpa [List.getD_eq_getElem?_getD,ha] using h
theorem eT (op:Int) (s:RunS):(fY op s).arrays=s.arrays:=by unfold fY;split <;> rfl
theorem lW {op id n:Int} {args:List Int} {s:RunS} (h:op=19 \/ op=21) {nn:Nat} (hn:n=nn) {a:List Int} (ha:s.arrays[nn]? = some a) {y:Int} (hy:(args.map s.vals).getD 0 0=y) :
  ((y < 0 \/ (a.length:Int) <= y) -> fA ⟨op,id,args,n⟩ s = .over (aA5 op) (fY op s)) /\ ∀ (j:Nat) (x:Int),y=j -> a[j]? = some x -> fA ⟨op,id,args,n⟩ s = .go x (fY op s):=by
 have h0:fA ⟨op,id,args,n⟩ s=(mK op n y s).bind fun _ s1=>.go ((s1.arrays.getD n.toNat []).getD y.toNat 0) s1:=by
  unfold fA
  simp only
  rw [if_neg (by omega),if_neg (by omega),if_pos h,hy]
 constructor
 ·intro hw
  rw [h0,sA hn ha hw];rfl
 ·intro j x hj hx
  have hjl:=(aE.1 hx).1
  rw [h0,aAL hn ha (by omega)]
  show Res.go (((fY op s).arrays.getD n.toNat []).getD y.toNat 0) (fY op s)=_
  rw [eT]
  subst hn;subst hj
  simp [aH,ha,hx]
theorem aAM {α : Type} {l:List α} {i:Nat} {x : α} (g : α -> α) (h:l[i]? = some x):l.modify i g=l.set i (g x):=qG g h
theorem kU {op id n:Int} {args:List Int} {s:RunS} (h:op=20 \/ op=22) {nn:Nat} (hn:n=nn) {a:List Int} (ha:s.arrays[nn]? = some a) {y z:Int} (hy:(args.map s.vals).getD 0 0=y) (hz:(args.map s.vals).getD 1 0=z) :
  ((y < 0 \/ (a.length:Int) <= y) -> fA ⟨op,id,args,n⟩ s = .over (aA5 op) (fY op s)) /\ ∀ (j:Nat),y=j -> j < a.length -> fA ⟨op,id,args,n⟩ s = .go 0 { fY op s with arrays:=s.arrays.set nn (a.set j z) }:=by
 have h0:fA ⟨op,id,args,n⟩ s=(mK op n y s).bind fun _ s1=>.go 0 { s1 with arrays:=s1.arrays.modify n.toNat fun a=>a.set y.toNat z }:=by
  unfold fA
  simp only
  rw [if_neg (by omega),if_neg (by omega),if_neg (by omega),if_pos h,hy,hz]
 constructor
 ·intro hw
  rw [h0,sA hn ha hw];rfl
 ·intro j hj hx
  rw [h0,aAL hn ha (by omega)]
  show Res.go 0 { fY op s with arrays:=(fY op s).arrays.modify n.toNat fun a=>a.set y.toNat z } = _
  rw [eT]
  subst hn;subst hj
  rw [cU,cU,aAM _ ha]
theorem sB {id n:Int} {args:List Int} {s:RunS} {y:Int} (hy:(args.map s.vals).getD 0 0=y):fA ⟨23,id,args,n⟩ s=if s.out.length=4096 then .over ⟨4,0,0⟩ s else .go 0 { s with out:=s.out ++ [y] }:=by
 unfold fA
 simp only
 rw [if_neg (by omega),if_neg (by omega),if_neg (by omega),if_neg (by omega),if_pos trivial,hy]
theorem sC {id n:Int} {args:List Int} {s:RunS} {nn:Nat} (hn:n=nn) {z:Int} (hz:s.cells[nn]? = some z):fA ⟨24,id,args,n⟩ s = .go z s:=by
 subst hn
 unfold fA
 simp [aH,hz]
theorem sD {id n:Int} {args:List Int} {s:RunS} {nn:Nat} (hn:n=nn) {y:Int} (hy:(args.map s.vals).getD 0 0=y):fA ⟨25,id,args,n⟩ s = .go 0 { s with cells:=s.cells.set nn y }:=by
 subst hn
 unfold fA
 simp only
 rw [if_neg (by omega),if_neg (by omega),if_neg (by omega),if_neg (by omega),if_neg (by omega),if_neg (by omega),if_pos trivial,hy]
 simp
theorem nJ {op id n:Int} {args:List Int} {s:RunS} (h:3 <= op/\op <= 17):fA ⟨op,id,args,n⟩ s=if nB op (args.map s.vals) ≠ 0 then .over ⟨2,0, -1⟩ s else .go (lK op (args.map s.vals)) s:=by
 unfold fA
 simp only
 rw [if_neg (by omega),if_neg (by omega),if_neg (by omega),if_neg (by omega),if_neg (by omega),if_neg (by omega),if_neg (by omega)]
theorem tS {α : Type} {R:World -> Foot -> List Value -> α -> Prop} (hR:Nice R) {P:Program} {w:World} {o:Oper} {a:Act} (s x:Operand) (t e:TypeId)
  (ho:o.op = .call { callee:=.builtin .append,args:=#[s,x],argTypes:=#[t,t] }) {z:Value} {size bytes:Nat} (he:Elem P t e z size bytes)
  {v:Value} {B:Nat} {ds:List Value} (hs:a.eval s=v) (hx:a.eval x = .slice (some ⟨B,0,none⟩) 1 1) {bs:List Nat} {base:Nat} {S Fn:Foot} {xs:List α} {y : α} {n:Nat} (hn:xs.length=n)
  (H:Holds bs base w S (fun W=>OSl R e size W S v xs)) (hB:Box w B ds.toArray) (hds:ds.length=size) (hel:R w Fn ds y) (hF:Fn.off S) (hFb:jY base Fn) (hbs:∀ b ∈ bs,b < base) (hbase:base <= w.heap.size)
  (h1:∀ u ∈ ds,u.oneCell' = true) (hlen:n+1 <= 17592186044416) (hbytes:(n+1) * bytes <= 140737488355328) {XF:Nat -> Foot} {i lim:Nat} (hFl:∀ k,Fn k -> lim <= k) (hl:lim <= w.heap.size) (hX:∀ k,S k -> XF i k) :
  ∃ u w'',(execOp a.eval o).run P w = .ok (.value u) w'' /\ (∃ S',Holds bs base w'' S' (fun W=>OSl R e size W S' u (xs ++ [y]))/\(∀ k,S' k -> S k \/ lim <= k) /\ ∃ g cap,u = .slice (some ⟨g,0,none⟩) (n+1) cap)/\Four.Step XF (fun _=>True) i w w'':=by
 obtain ⟨v',w',S',q0,q1,q2,q3,q4⟩:=xY hR s x t e ho he hs hx hn H hB hds hel hF hFb hbs hbase h1 hlen hbytes
 refine ⟨v',w',q0,⟨S',q1,fun k hk => ?_,q4⟩,q3.mono fun k _ hk=>hX k hk,fun h=>h⟩
 rcases q2 k hk with h | h | h
 ·exact .inl h
 ·exact .inr (hFl k h)
 ·exact .inr (by omega)
theorem Off.frozen {S:Foot} {W W' : World} (h:Off S W W') {b o:Nat} (hl:b < W.heap.size) (hn:¬ S b):W'.frozen? ⟨b,o,none⟩=W.frozen? ⟨b,o,none⟩:=World.frozen?_of_block (w:=W) (a:=⟨b,o,none⟩) (h.block b hl hn)
theorem jC {w:World} {ops:Array Oper} {rest:List Oper} {o:Oper} {a:Act} {Q:Exit -> Act -> World -> Prop} (hgd:o.guard=none) (s x:Operand)
  (ho:o.op = .call { callee:=.builtin .append,args:=#[s,x],argTypes:=#[22,22] }) {v:Value} {B:Nat} {y:Int} (hs:a.eval s=v) (hx:a.eval x = .slice (some ⟨B,0,none⟩) 1 1) {S:Foot} {xs:List Int} {n:Nat} (hn:xs.length=n)
  (H:eM w S v xs) (hB:Box w B #[.int .i64 y]) (hy:In64 y) (hlen:n+1 <= 100000)
  (hK:∀ g cap w',eM w' (Foot.one g) (.slice (some ⟨g,0,none⟩) (n+1) cap) (xs ++ [y]) -> (S g \/ w.heap.size <= g) -> Off S w w' -> wpList Tryz.prog ops Q rest (a.put o.dst (.slice (some ⟨g,0,none⟩) (n+1) cap)) w'):wpList Tryz.prog ops Q (o :: rest) a w:=by
 refine mL (P:=Tryz.prog) hgd s x 22 3 ho mA hs hx H.1 (rE (n:=1) (size:=1) (ds:=[.int .i64 y]) hB rfl (by omega)) (by intro u hu;simp at hu;subst hu;rfl) (by omega) (by omega) fun v' w' G' r1 r2 r3 => ?_
 have hO:eM w' G' v' (xs ++ [y]):=by
  refine ⟨?_,fun z hz => ?_⟩
  ·rw [aQ,bF];exact r1
  rcases aO.1 hz with h | h
  ·exact H.2 z h
  simp at h;subst h;exact hy
 obtain ⟨g,cap,rfl,hg, -⟩:=hO.1.addr (by simp)
 have hl:(xs ++ [y]).length=n+1:=by simp [hn]
 rw [hl] at hO ⊢
 obtain ⟨k1,k2⟩:=hO.narrow (by omega)
 exact hK g cap w' k1 (r2 g k2) r3
end
end Go.Proofs.YtcmflfkpeodicaaGreat
