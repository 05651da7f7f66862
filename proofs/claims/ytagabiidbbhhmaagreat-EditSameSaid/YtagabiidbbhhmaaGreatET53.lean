/- Part 53. -/
import Derived.Test.YtagabiidbbhhmaaGreatET52
namespace Go.Proofs.YtagabiidbbhhmaaGreat
set_option maxHeartbeats 6400000
set_option linter.all false
set_option maxRecDepth 100000
open Go.RowKit
def gD:List (Int×Value):=[(3,.func (.func 213) #[] #[]),(4,.func (.func 214) #[] #[]),(5,.func (.func 215) #[] #[]),(6,.func (.func 216) #[] #[]),(7,.func (.func 217) #[] #[]),(8,.func (.func 218) #[] #[]),(9,.func (.func 219) #[] #[]),(10,.func (.func 220) #[] #[]),(11,.func (.func 221) #[] #[]),(12,.func (.func 222) #[] #[]),(13,.func (.func 223) #[] #[]),(14,.func (.func 224) #[] #[]),(15,.func (.func 225) #[] #[])]
def aLL(w:World)(e:Ending)(w':World):Prop:=∃bm,e=.returned (.map (some bm))/\IMap w' bm gD/\Below w.heap.size w w'
theorem jE{w:World}:Calls Tryz.prog 212 #[] w (aLL w):=by
 have hmm:=@run_makeMap Tryz.prog;go_enter Tryz.func212,Tryz.ntmps212;have HI:Hid (IMap (w.alloc (.map #[] 0)) w.heap.size []):=h! (IMap.new w);have aa:Hid (Turn [w.heap.size] (w.alloc (.map #[] 0)) (w.alloc (.map #[] 0))):=h! (Turn.refl _ _);go_wp2_with (with_reducible refine gC (q:=.i64) (b:=w.heap.size) rfl _ _ _ _ (.inr rfl) Tryz.underlying263 Tryz.underlying3 rfl HI.out rfl ?_;intro w2 ab _ ac;replace HI:=h! ab;replace aa:=h! (aa.out.trans ac);clear ab ac);have HP:Hid (gD=mput (mput (mput (mput (mput (mput (mput (mput (mput (mput (mput (mput (mput [] 3 (.func (.func 213) #[] #[])) 4 (.func (.func 214) #[] #[])) 5 (.func (.func 215) #[] #[])) 6 (.func (.func 216) #[] #[])) 7 (.func (.func 217) #[] #[])) 8 (.func (.func 218) #[] #[])) 9 (.func (.func 219) #[] #[])) 10 (.func (.func 220) #[] #[])) 11 (.func (.func 221) #[] #[])) 12 (.func (.func 222) #[] #[])) 13 (.func (.func 223) #[] #[])) 14 (.func (.func 224) #[] #[])) 15 (.func (.func 225) #[] #[])):=h! (by kernel_rfl);go_ret;refine⟨w.heap.size,rfl, ?_, ?_⟩
 ·rw[HP.out];exact HI
 exact((Below.refl _ _).alloc (aC _) _).trans (aa.below (by simp) (by simp))
theorem jF(w:World):(zeroValue 262).run Tryz.prog w=.ok .nilFunc w:=by kernel_rfl
def TwoR(op a b:Int)(w:World)(e:Ending)(w':World):Prop:=e=.returned (.tuple #[.int .i64 (jX op a b),.int .i64 0])/\Below w.heap.size w w'
theorem aLM{w:World}(a b:Int):Calls Tryz.prog 196 #[.int .i64 3,.int .i64 a,.int .i64 b] w (TwoR 3 a b w):=by
 have eg1:∀(args:Array Value) (w:World),(callFunc 213 args).run Tryz.prog w=.ok (.enter 213 args) w:=enters_of Tryz.func213 (by kernel_rfl) rfl
 cases hb0:(b == 0)
 ·go_enter Tryz.func196,Tryz.ntmps196;go_wp2_with fail;clear hb0;refine jE.mono ?_;rintro e w1 ⟨bm,rfl,hI,hb⟩;have HI:=h! hI;have HW:=h! hb;have HG:Hid ((mget gD 3).getD .nilFunc=.func (.func 213) #[] #[]):=h! (by kernel_rfl);clear hI hb;have HC:=h! (aDE (w:=w1) a b);go_wp2_with (first|(at_lookup;refine fU (q:=.i64) (z:=.nilFunc) (b:=bm) (mm:=gD) (y:=3) rfl _ _ _ rfl Tryz.underlying263 Tryz.underlying3 (jF _) rfl HI.out rfl ?_;rw[HG.out])|(go_at_fn 213;refine HC.mono ?_;rintro e w4 ⟨rfl,hb4⟩;have HB4:=h! hb4;clear hb4));go_ret2;exact⟨rfl,HW.trans (HB4.mono HW.size)⟩
 go_enter Tryz.func196,Tryz.ntmps196;go_wp2_with fail;clear hb0;refine jE.mono ?_;rintro e w1 ⟨bm,rfl,hI,hb⟩;have HI:=h! hI;have HW:=h! hb;have HG:Hid ((mget gD 3).getD .nilFunc=.func (.func 213) #[] #[]):=h! (by kernel_rfl);clear hI hb;have HC:=h! (aDE (w:=w1) a b);go_wp2_with (first|(at_lookup;refine fU (q:=.i64) (z:=.nilFunc) (b:=bm) (mm:=gD) (y:=3) rfl _ _ _ rfl Tryz.underlying263 Tryz.underlying3 (jF _) rfl HI.out rfl ?_;rw[HG.out])|(go_at_fn 213;refine HC.mono ?_;rintro e w4 ⟨rfl,hb4⟩;have HB4:=h! hb4;clear hb4));go_ret2;exact⟨rfl,HW.trans (HB4.mono HW.size)⟩
theorem aLN{w:World}(a b:Int):Calls Tryz.prog 196 #[.int .i64 4,.int .i64 a,.int .i64 b] w (TwoR 4 a b w):=by
 have eg1:∀(args:Array Value) (w:World),(callFunc 214 args).run Tryz.prog w=.ok (.enter 214 args) w:=enters_of Tryz.func214 (by kernel_rfl) rfl
 cases hb0:(b == 0)
 ·go_enter Tryz.func196,Tryz.ntmps196;go_wp2_with fail;clear hb0;refine jE.mono ?_;rintro e w1 ⟨bm,rfl,hI,hb⟩;have HI:=h! hI;have HW:=h! hb;have HG:Hid ((mget gD 4).getD .nilFunc=.func (.func 214) #[] #[]):=h! (by kernel_rfl);clear hI hb;have HC:=h! (aDF (w:=w1) a b);go_wp2_with (first|(at_lookup;refine fU (q:=.i64) (z:=.nilFunc) (b:=bm) (mm:=gD) (y:=4) rfl _ _ _ rfl Tryz.underlying263 Tryz.underlying3 (jF _) rfl HI.out rfl ?_;rw[HG.out])|(go_at_fn 214;refine HC.mono ?_;rintro e w4 ⟨rfl,hb4⟩;have HB4:=h! hb4;clear hb4));go_ret2;exact⟨rfl,HW.trans (HB4.mono HW.size)⟩
 go_enter Tryz.func196,Tryz.ntmps196;go_wp2_with fail;clear hb0;refine jE.mono ?_;rintro e w1 ⟨bm,rfl,hI,hb⟩;have HI:=h! hI;have HW:=h! hb;have HG:Hid ((mget gD 4).getD .nilFunc=.func (.func 214) #[] #[]):=h! (by kernel_rfl);clear hI hb;have HC:=h! (aDF (w:=w1) a b);go_wp2_with (first|(at_lookup;refine fU (q:=.i64) (z:=.nilFunc) (b:=bm) (mm:=gD) (y:=4) rfl _ _ _ rfl Tryz.underlying263 Tryz.underlying3 (jF _) rfl HI.out rfl ?_;rw[HG.out])|(go_at_fn 214;refine HC.mono ?_;rintro e w4 ⟨rfl,hb4⟩;have HB4:=h! hb4;clear hb4));go_ret2;exact⟨rfl,HW.trans (HB4.mono HW.size)⟩
theorem aLO{w:World}(a b:Int):Calls Tryz.prog 196 #[.int .i64 5,.int .i64 a,.int .i64 b] w (TwoR 5 a b w):=by
 have eg1:∀(args:Array Value) (w:World),(callFunc 215 args).run Tryz.prog w=.ok (.enter 215 args) w:=enters_of Tryz.func215 (by kernel_rfl) rfl
 cases hb0:(b == 0)
 ·go_enter Tryz.func196,Tryz.ntmps196;go_wp2_with fail;clear hb0;refine jE.mono ?_;rintro e w1 ⟨bm,rfl,hI,hb⟩;have HI:=h! hI;have HW:=h! hb;have HG:Hid ((mget gD 5).getD .nilFunc=.func (.func 215) #[] #[]):=h! (by kernel_rfl);clear hI hb;have HC:=h! (aDG (w:=w1) a b);go_wp2_with (first|(at_lookup;refine fU (q:=.i64) (z:=.nilFunc) (b:=bm) (mm:=gD) (y:=5) rfl _ _ _ rfl Tryz.underlying263 Tryz.underlying3 (jF _) rfl HI.out rfl ?_;rw[HG.out])|(go_at_fn 215;refine HC.mono ?_;rintro e w4 ⟨rfl,hb4⟩;have HB4:=h! hb4;clear hb4));go_ret2;exact⟨rfl,HW.trans (HB4.mono HW.size)⟩
 go_enter Tryz.func196,Tryz.ntmps196;go_wp2_with fail;clear hb0;refine jE.mono ?_;rintro e w1 ⟨bm,rfl,hI,hb⟩;have HI:=h! hI;have HW:=h! hb;have HG:Hid ((mget gD 5).getD .nilFunc=.func (.func 215) #[] #[]):=h! (by kernel_rfl);clear hI hb;have HC:=h! (aDG (w:=w1) a b);go_wp2_with (first|(at_lookup;refine fU (q:=.i64) (z:=.nilFunc) (b:=bm) (mm:=gD) (y:=5) rfl _ _ _ rfl Tryz.underlying263 Tryz.underlying3 (jF _) rfl HI.out rfl ?_;rw[HG.out])|(go_at_fn 215;refine HC.mono ?_;rintro e w4 ⟨rfl,hb4⟩;have HB4:=h! hb4;clear hb4));go_ret2;exact⟨rfl,HW.trans (HB4.mono HW.size)⟩
theorem aLP{w:World}(a b:Int):Calls Tryz.prog 196 #[.int .i64 6,.int .i64 a,.int .i64 b] w (TwoR 6 a b w):=by
 have eg1:∀(args:Array Value) (w:World),(callFunc 216 args).run Tryz.prog w=.ok (.enter 216 args) w:=enters_of Tryz.func216 (by kernel_rfl) rfl
 cases hb0:(b == 0)
 ·go_enter Tryz.func196,Tryz.ntmps196;go_wp2_with fail;clear hb0;refine jE.mono ?_;rintro e w1 ⟨bm,rfl,hI,hb⟩;have HI:=h! hI;have HW:=h! hb;have HG:Hid ((mget gD 6).getD .nilFunc=.func (.func 216) #[] #[]):=h! (by kernel_rfl);clear hI hb;have HC:=h! (aDH (w:=w1) a b);go_wp2_with (first|(at_lookup;refine fU (q:=.i64) (z:=.nilFunc) (b:=bm) (mm:=gD) (y:=6) rfl _ _ _ rfl Tryz.underlying263 Tryz.underlying3 (jF _) rfl HI.out rfl ?_;rw[HG.out])|(go_at_fn 216;refine HC.mono ?_;rintro e w4 ⟨rfl,hb4⟩;have HB4:=h! hb4;clear hb4));go_ret2;exact⟨rfl,HW.trans (HB4.mono HW.size)⟩
 go_enter Tryz.func196,Tryz.ntmps196;go_wp2_with fail;clear hb0;refine jE.mono ?_;rintro e w1 ⟨bm,rfl,hI,hb⟩;have HI:=h! hI;have HW:=h! hb;have HG:Hid ((mget gD 6).getD .nilFunc=.func (.func 216) #[] #[]):=h! (by kernel_rfl);clear hI hb;have HC:=h! (aDH (w:=w1) a b);go_wp2_with (first|(at_lookup;refine fU (q:=.i64) (z:=.nilFunc) (b:=bm) (mm:=gD) (y:=6) rfl _ _ _ rfl Tryz.underlying263 Tryz.underlying3 (jF _) rfl HI.out rfl ?_;rw[HG.out])|(go_at_fn 216;refine HC.mono ?_;rintro e w4 ⟨rfl,hb4⟩;have HB4:=h! hb4;clear hb4));go_ret2;exact⟨rfl,HW.trans (HB4.mono HW.size)⟩
theorem aM1{w:World}(a b:Int):Calls Tryz.prog 196 #[.int .i64 7,.int .i64 a,.int .i64 b] w (TwoR 7 a b w):=by
 have eg1:∀(args:Array Value) (w:World),(callFunc 217 args).run Tryz.prog w=.ok (.enter 217 args) w:=enters_of Tryz.func217 (by kernel_rfl) rfl
 cases hb0:(b == 0)
 ·go_enter Tryz.func196,Tryz.ntmps196;go_wp2_with fail;clear hb0;refine jE.mono ?_;rintro e w1 ⟨bm,rfl,hI,hb⟩;have HI:=h! hI;have HW:=h! hb;have HG:Hid ((mget gD 7).getD .nilFunc=.func (.func 217) #[] #[]):=h! (by kernel_rfl);clear hI hb;have HC:=h! (aIM (w:=w1) a b);go_wp2_with (first|(at_lookup;refine fU (q:=.i64) (z:=.nilFunc) (b:=bm) (mm:=gD) (y:=7) rfl _ _ _ rfl Tryz.underlying263 Tryz.underlying3 (jF _) rfl HI.out rfl ?_;rw[HG.out])|(go_at_fn 217;refine HC.mono ?_;rintro e w4 ⟨rfl,hb4⟩;have HB4:=h! hb4;clear hb4));go_ret2;exact⟨rfl,HW.trans (HB4.mono HW.size)⟩
 go_enter Tryz.func196,Tryz.ntmps196;go_wp2_with fail;clear hb0;refine jE.mono ?_;rintro e w1 ⟨bm,rfl,hI,hb⟩;have HI:=h! hI;have HW:=h! hb;have HG:Hid ((mget gD 7).getD .nilFunc=.func (.func 217) #[] #[]):=h! (by kernel_rfl);clear hI hb;have HC:=h! (aIM (w:=w1) a b);go_wp2_with (first|(at_lookup;refine fU (q:=.i64) (z:=.nilFunc) (b:=bm) (mm:=gD) (y:=7) rfl _ _ _ rfl Tryz.underlying263 Tryz.underlying3 (jF _) rfl HI.out rfl ?_;rw[HG.out])|(go_at_fn 217;refine HC.mono ?_;rintro e w4 ⟨rfl,hb4⟩;have HB4:=h! hb4;clear hb4));go_ret2;exact⟨rfl,HW.trans (HB4.mono HW.size)⟩
theorem aLQ{w:World}(a b:Int):Calls Tryz.prog 196 #[.int .i64 8,.int .i64 a,.int .i64 b] w (TwoR 8 a b w):=by
 have eg1:∀(args:Array Value) (w:World),(callFunc 218 args).run Tryz.prog w=.ok (.enter 218 args) w:=enters_of Tryz.func218 (by kernel_rfl) rfl
 cases hb0:(b == 0)
 ·go_enter Tryz.func196,Tryz.ntmps196;go_wp2_with fail;clear hb0;refine jE.mono ?_;rintro e w1 ⟨bm,rfl,hI,hb⟩;have HI:=h! hI;have HW:=h! hb;have HG:Hid ((mget gD 8).getD .nilFunc=.func (.func 218) #[] #[]):=h! (by kernel_rfl);clear hI hb;have HC:=h! (aDI (w:=w1) a b);go_wp2_with (first|(at_lookup;refine fU (q:=.i64) (z:=.nilFunc) (b:=bm) (mm:=gD) (y:=8) rfl _ _ _ rfl Tryz.underlying263 Tryz.underlying3 (jF _) rfl HI.out rfl ?_;rw[HG.out])|(go_at_fn 218;refine HC.mono ?_;rintro e w4 ⟨rfl,hb4⟩;have HB4:=h! hb4;clear hb4));go_ret2;exact⟨rfl,HW.trans (HB4.mono HW.size)⟩
 go_enter Tryz.func196,Tryz.ntmps196;go_wp2_with fail;clear hb0;refine jE.mono ?_;rintro e w1 ⟨bm,rfl,hI,hb⟩;have HI:=h! hI;have HW:=h! hb;have HG:Hid ((mget gD 8).getD .nilFunc=.func (.func 218) #[] #[]):=h! (by kernel_rfl);clear hI hb;have HC:=h! (aDI (w:=w1) a b);go_wp2_with (first|(at_lookup;refine fU (q:=.i64) (z:=.nilFunc) (b:=bm) (mm:=gD) (y:=8) rfl _ _ _ rfl Tryz.underlying263 Tryz.underlying3 (jF _) rfl HI.out rfl ?_;rw[HG.out])|(go_at_fn 218;refine HC.mono ?_;rintro e w4 ⟨rfl,hb4⟩;have HB4:=h! hb4;clear hb4));go_ret2;exact⟨rfl,HW.trans (HB4.mono HW.size)⟩
theorem aLR{w:World}(a b:Int):Calls Tryz.prog 196 #[.int .i64 9,.int .i64 a,.int .i64 b] w (TwoR 9 a b w):=by
 have eg1:∀(args:Array Value) (w:World),(callFunc 219 args).run Tryz.prog w=.ok (.enter 219 args) w:=enters_of Tryz.func219 (by kernel_rfl) rfl
 cases hb0:(b == 0)
 ·go_enter Tryz.func196,Tryz.ntmps196;go_wp2_with fail;clear hb0;refine jE.mono ?_;rintro e w1 ⟨bm,rfl,hI,hb⟩;have HI:=h! hI;have HW:=h! hb;have HG:Hid ((mget gD 9).getD .nilFunc=.func (.func 219) #[] #[]):=h! (by kernel_rfl);clear hI hb;have HC:=h! (aDJ (w:=w1) a b);go_wp2_with (first|(at_lookup;refine fU (q:=.i64) (z:=.nilFunc) (b:=bm) (mm:=gD) (y:=9) rfl _ _ _ rfl Tryz.underlying263 Tryz.underlying3 (jF _) rfl HI.out rfl ?_;rw[HG.out])|(go_at_fn 219;refine HC.mono ?_;rintro e w4 ⟨rfl,hb4⟩;have HB4:=h! hb4;clear hb4));go_ret2;exact⟨rfl,HW.trans (HB4.mono HW.size)⟩
 go_enter Tryz.func196,Tryz.ntmps196;go_wp2_with fail;clear hb0;refine jE.mono ?_;rintro e w1 ⟨bm,rfl,hI,hb⟩;have HI:=h! hI;have HW:=h! hb;have HG:Hid ((mget gD 9).getD .nilFunc=.func (.func 219) #[] #[]):=h! (by kernel_rfl);clear hI hb;have HC:=h! (aDJ (w:=w1) a b);go_wp2_with (first|(at_lookup;refine fU (q:=.i64) (z:=.nilFunc) (b:=bm) (mm:=gD) (y:=9) rfl _ _ _ rfl Tryz.underlying263 Tryz.underlying3 (jF _) rfl HI.out rfl ?_;rw[HG.out])|(go_at_fn 219;refine HC.mono ?_;rintro e w4 ⟨rfl,hb4⟩;have HB4:=h! hb4;clear hb4));go_ret2;exact⟨rfl,HW.trans (HB4.mono HW.size)⟩
theorem aLS{w:World}(a b:Int):Calls Tryz.prog 196 #[.int .i64 10,.int .i64 a,.int .i64 b] w (TwoR 10 a b w):=by
 have eg1:∀(args:Array Value) (w:World),(callFunc 220 args).run Tryz.prog w=.ok (.enter 220 args) w:=enters_of Tryz.func220 (by kernel_rfl) rfl
 cases hb0:(b == 0)
 ·go_enter Tryz.func196,Tryz.ntmps196;go_wp2_with fail;clear hb0;refine jE.mono ?_;rintro e w1 ⟨bm,rfl,hI,hb⟩;have HI:=h! hI;have HW:=h! hb;have HG:Hid ((mget gD 10).getD .nilFunc=.func (.func 220) #[] #[]):=h! (by kernel_rfl);clear hI hb;have HC:=h! (aDK (w:=w1) a b);go_wp2_with (first|(at_lookup;refine fU (q:=.i64) (z:=.nilFunc) (b:=bm) (mm:=gD) (y:=10) rfl _ _ _ rfl Tryz.underlying263 Tryz.underlying3 (jF _) rfl HI.out rfl ?_;rw[HG.out])|(go_at_fn 220;refine HC.mono ?_;rintro e w4 ⟨rfl,hb4⟩;have HB4:=h! hb4;clear hb4));go_ret2;exact⟨rfl,HW.trans (HB4.mono HW.size)⟩
 go_enter Tryz.func196,Tryz.ntmps196;go_wp2_with fail;clear hb0;refine jE.mono ?_;rintro e w1 ⟨bm,rfl,hI,hb⟩;have HI:=h! hI;have HW:=h! hb;have HG:Hid ((mget gD 10).getD .nilFunc=.func (.func 220) #[] #[]):=h! (by kernel_rfl);clear hI hb;have HC:=h! (aDK (w:=w1) a b);go_wp2_with (first|(at_lookup;refine fU (q:=.i64) (z:=.nilFunc) (b:=bm) (mm:=gD) (y:=10) rfl _ _ _ rfl Tryz.underlying263 Tryz.underlying3 (jF _) rfl HI.out rfl ?_;rw[HG.out])|(go_at_fn 220;refine HC.mono ?_;rintro e w4 ⟨rfl,hb4⟩;have HB4:=h! hb4;clear hb4));go_ret2;exact⟨rfl,HW.trans (HB4.mono HW.size)⟩
theorem aM2{w:World}(a b:Int):Calls Tryz.prog 196 #[.int .i64 13,.int .i64 a,.int .i64 b] w (TwoR 13 a b w):=by
 have eg1:∀(args:Array Value) (w:World),(callFunc 223 args).run Tryz.prog w=.ok (.enter 223 args) w:=enters_of Tryz.func223 (by kernel_rfl) rfl
 cases hb0:(b == 0)
 ·go_enter Tryz.func196,Tryz.ntmps196;go_wp2_with fail;clear hb0;refine jE.mono ?_;rintro e w1 ⟨bm,rfl,hI,hb⟩;have HI:=h! hI;have HW:=h! hb;have HG:Hid ((mget gD 13).getD .nilFunc=.func (.func 223) #[] #[]):=h! (by kernel_rfl);clear hI hb;have HC:=h! (aIN (w:=w1) a b);go_wp2_with (first|(at_lookup;refine fU (q:=.i64) (z:=.nilFunc) (b:=bm) (mm:=gD) (y:=13) rfl _ _ _ rfl Tryz.underlying263 Tryz.underlying3 (jF _) rfl HI.out rfl ?_;rw[HG.out])|(go_at_fn 223;refine HC.mono ?_;rintro e w4 ⟨rfl,hb4⟩;have HB4:=h! hb4;clear hb4));go_ret2;exact⟨rfl,HW.trans (HB4.mono HW.size)⟩
 go_enter Tryz.func196,Tryz.ntmps196;go_wp2_with fail;clear hb0;refine jE.mono ?_;rintro e w1 ⟨bm,rfl,hI,hb⟩;have HI:=h! hI;have HW:=h! hb;have HG:Hid ((mget gD 13).getD .nilFunc=.func (.func 223) #[] #[]):=h! (by kernel_rfl);clear hI hb;have HC:=h! (aIN (w:=w1) a b);go_wp2_with (first|(at_lookup;refine fU (q:=.i64) (z:=.nilFunc) (b:=bm) (mm:=gD) (y:=13) rfl _ _ _ rfl Tryz.underlying263 Tryz.underlying3 (jF _) rfl HI.out rfl ?_;rw[HG.out])|(go_at_fn 223;refine HC.mono ?_;rintro e w4 ⟨rfl,hb4⟩;have HB4:=h! hb4;clear hb4));go_ret2;exact⟨rfl,HW.trans (HB4.mono HW.size)⟩
theorem aM3{w:World}(a b:Int):Calls Tryz.prog 196 #[.int .i64 14,.int .i64 a,.int .i64 b] w (TwoR 14 a b w):=by
 have eg1:∀(args:Array Value) (w:World),(callFunc 224 args).run Tryz.prog w=.ok (.enter 224 args) w:=enters_of Tryz.func224 (by kernel_rfl) rfl
 cases hb0:(b == 0)
 ·go_enter Tryz.func196,Tryz.ntmps196;go_wp2_with fail;clear hb0;refine jE.mono ?_;rintro e w1 ⟨bm,rfl,hI,hb⟩;have HI:=h! hI;have HW:=h! hb;have HG:Hid ((mget gD 14).getD .nilFunc=.func (.func 224) #[] #[]):=h! (by kernel_rfl);clear hI hb;have HC:=h! (aIO (w:=w1) a b);go_wp2_with (first|(at_lookup;refine fU (q:=.i64) (z:=.nilFunc) (b:=bm) (mm:=gD) (y:=14) rfl _ _ _ rfl Tryz.underlying263 Tryz.underlying3 (jF _) rfl HI.out rfl ?_;rw[HG.out])|(go_at_fn 224;refine HC.mono ?_;rintro e w4 ⟨rfl,hb4⟩;have HB4:=h! hb4;clear hb4));go_ret2;exact⟨rfl,HW.trans (HB4.mono HW.size)⟩
 go_enter Tryz.func196,Tryz.ntmps196;go_wp2_with fail;clear hb0;refine jE.mono ?_;rintro e w1 ⟨bm,rfl,hI,hb⟩;have HI:=h! hI;have HW:=h! hb;have HG:Hid ((mget gD 14).getD .nilFunc=.func (.func 224) #[] #[]):=h! (by kernel_rfl);clear hI hb;have HC:=h! (aIO (w:=w1) a b);go_wp2_with (first|(at_lookup;refine fU (q:=.i64) (z:=.nilFunc) (b:=bm) (mm:=gD) (y:=14) rfl _ _ _ rfl Tryz.underlying263 Tryz.underlying3 (jF _) rfl HI.out rfl ?_;rw[HG.out])|(go_at_fn 224;refine HC.mono ?_;rintro e w4 ⟨rfl,hb4⟩;have HB4:=h! hb4;clear hb4));go_ret2;exact⟨rfl,HW.trans (HB4.mono HW.size)⟩
theorem aGZ{w:World}(a b:Int):Calls Tryz.prog 196 #[.int .i64 15,.int .i64 a,.int .i64 b] w (TwoR 15 a b w):=by
 have eg1:∀(args:Array Value) (w:World),(callFunc 225 args).run Tryz.prog w=.ok (.enter 225 args) w:=enters_of Tryz.func225 (by kernel_rfl) rfl
 cases hb0:(b == 0)
 ·go_enter Tryz.func196,Tryz.ntmps196;go_wp2_with fail;clear hb0;refine jE.mono ?_;rintro e w1 ⟨bm,rfl,hI,hb⟩;have HI:=h! hI;have HW:=h! hb;have HG:Hid ((mget gD 15).getD .nilFunc=.func (.func 225) #[] #[]):=h! (by kernel_rfl);clear hI hb;have HC:=h! (vD (w:=w1) a b);go_wp2_with (first|(at_lookup;refine fU (q:=.i64) (z:=.nilFunc) (b:=bm) (mm:=gD) (y:=15) rfl _ _ _ rfl Tryz.underlying263 Tryz.underlying3 (jF _) rfl HI.out rfl ?_;rw[HG.out])|(go_at_fn 225;refine HC.mono ?_;rintro e w4 ⟨rfl,hb4⟩;have HB4:=h! hb4;clear hb4));go_ret2;exact⟨rfl,HW.trans (HB4.mono HW.size)⟩
 go_enter Tryz.func196,Tryz.ntmps196;go_wp2_with fail;clear hb0;refine jE.mono ?_;rintro e w1 ⟨bm,rfl,hI,hb⟩;have HI:=h! hI;have HW:=h! hb;have HG:Hid ((mget gD 15).getD .nilFunc=.func (.func 225) #[] #[]):=h! (by kernel_rfl);clear hI hb;have HC:=h! (vD (w:=w1) a b);go_wp2_with (first|(at_lookup;refine fU (q:=.i64) (z:=.nilFunc) (b:=bm) (mm:=gD) (y:=15) rfl _ _ _ rfl Tryz.underlying263 Tryz.underlying3 (jF _) rfl HI.out rfl ?_;rw[HG.out])|(go_at_fn 225;refine HC.mono ?_;rintro e w4 ⟨rfl,hb4⟩;have HB4:=h! hb4;clear hb4));go_ret2;exact⟨rfl,HW.trans (HB4.mono HW.size)⟩
theorem aLT{w:World}(a b:Int)(hb:¬b=0):Calls Tryz.prog 196 #[.int .i64 11,.int .i64 a,.int .i64 b] w (TwoR 11 a b w):=by
 have eg1:∀(args:Array Value) (w:World),(callFunc 221 args).run Tryz.prog w=.ok (.enter 221 args) w:=enters_of Tryz.func221 (by kernel_rfl) rfl;have aa:(b == 0)=false:=by simpa using hb
 have HB:=h! hb;clear hb;go_enter Tryz.func196,Tryz.ntmps196;go_wp2_with fail;clear aa;refine jE.mono ?_;rintro e w1 ⟨bm,rfl,hI,hb⟩;have HI:=h! hI;have HW:=h! hb;have HG:Hid ((mget gD 11).getD .nilFunc=.func (.func 221) #[] #[]):=h! (by kernel_rfl);clear hI hb;have HC:=h! (aI6 (w:=w1) a b HB.out);go_wp2_with (first|(at_lookup;refine fU (q:=.i64) (z:=.nilFunc) (b:=bm) (mm:=gD) (y:=11) rfl _ _ _ rfl Tryz.underlying263 Tryz.underlying3 (jF _) rfl HI.out rfl ?_;rw[HG.out])|(go_at_fn 221;refine HC.mono ?_;rintro e w4 ⟨rfl,hb4⟩;have HB4:=h! hb4;clear hb4));go_ret2;exact⟨rfl,HW.trans (HB4.mono HW.size)⟩
theorem aJH{w:World}(a:Int):Calls Tryz.prog 196 #[.int .i64 11,.int .i64 a,.int .i64 0] w fun e w'=>e=.returned (.tuple #[.int .i64 0,.int .i64 9])/\Below w.heap.size w w':=by go_enter Tryz.func196,Tryz.ntmps196;go_wp2;go_ret2;exact⟨rfl,Below.refl _ _⟩
theorem aLU{w:World}(a b:Int)(hb:¬b=0):Calls Tryz.prog 196 #[.int .i64 12,.int .i64 a,.int .i64 b] w (TwoR 12 a b w):=by
 have eg1:∀(args:Array Value) (w:World),(callFunc 222 args).run Tryz.prog w=.ok (.enter 222 args) w:=enters_of Tryz.func222 (by kernel_rfl) rfl;have aa:(b == 0)=false:=by simpa using hb
 have HB:=h! hb;clear hb;go_enter Tryz.func196,Tryz.ntmps196;go_wp2_with fail;clear aa;refine jE.mono ?_;rintro e w1 ⟨bm,rfl,hI,hb⟩;have HI:=h! hI;have HW:=h! hb;have HG:Hid ((mget gD 12).getD .nilFunc=.func (.func 222) #[] #[]):=h! (by kernel_rfl);clear hI hb;have HC:=h! (aI7 (w:=w1) a b HB.out);go_wp2_with (first|(at_lookup;refine fU (q:=.i64) (z:=.nilFunc) (b:=bm) (mm:=gD) (y:=12) rfl _ _ _ rfl Tryz.underlying263 Tryz.underlying3 (jF _) rfl HI.out rfl ?_;rw[HG.out])|(go_at_fn 222;refine HC.mono ?_;rintro e w4 ⟨rfl,hb4⟩;have HB4:=h! hb4;clear hb4));go_ret2;exact⟨rfl,HW.trans (HB4.mono HW.size)⟩
theorem aJI{w:World}(a:Int):Calls Tryz.prog 196 #[.int .i64 12,.int .i64 a,.int .i64 0] w fun e w'=>e=.returned (.tuple #[.int .i64 0,.int .i64 9])/\Below w.heap.size w w':=by go_enter Tryz.func196,Tryz.ntmps196;go_wp2;go_ret2;exact⟨rfl,Below.refl _ _⟩
def twoV(op a b:Int):Int:=if (op=11\/op=12)/\b=0 then 0 else jX op a b
def twoE(op b:Int):Int:=if (op=11\/op=12)/\b=0 then 9 else 0
theorem twoC{w:World}(op a b:Int)(h:3<=op/\op<=15):Calls Tryz.prog 196 #[.int .i64 op,.int .i64 a,.int .i64 b] w fun e w'=>e=.returned (.tuple #[.int .i64 (twoV op a b),.int .i64 (twoE op b)])/\Below w.heap.size w w':=by
 have ac:op=3\/op=4\/op=5\/op=6\/op=7\/op=8\/op=9\/op=10\/op=11\/op=12\/op=13\/op=14\/op=15:=by omega
 have aa:∀op,¬((op=11\/op=12)/\b=0)->twoV op a b=jX op a b/\twoE op b=0:=fun op h=>⟨by unfold twoV;rw[if_neg h],by unfold twoE;rw[if_neg h]⟩;have ab:∀op,((op=11\/op=12)/\b=0)->twoV op a b=0/\twoE op b=9:=fun op h=>⟨by unfold twoV;rw[if_pos h],by unfold twoE;rw[if_pos h]⟩;rcases ac with rfl|rfl|rfl|rfl|rfl|rfl|rfl|rfl|rfl|rfl|rfl|rfl|rfl
 ·rw[(aa 3 (by omega)).1,(aa 3 (by omega)).2];exact aLM a b
 ·rw[(aa 4 (by omega)).1,(aa 4 (by omega)).2];exact aLN a b
 ·rw[(aa 5 (by omega)).1,(aa 5 (by omega)).2];exact aLO a b
 ·rw[(aa 6 (by omega)).1,(aa 6 (by omega)).2];exact aLP a b
 ·rw[(aa 7 (by omega)).1,(aa 7 (by omega)).2];exact aM1 a b
 ·rw[(aa 8 (by omega)).1,(aa 8 (by omega)).2];exact aLQ a b
 ·rw[(aa 9 (by omega)).1,(aa 9 (by omega)).2];exact aLR a b
 ·rw[(aa 10 (by omega)).1,(aa 10 (by omega)).2];exact aLS a b
 ·by_cases hb:b=0
  ·rw[(ab 11 ⟨by omega,hb⟩).1,(ab 11 ⟨by omega,hb⟩).2,hb];exact aJH a
  rw[(aa 11 (by omega)).1,(aa 11 (by omega)).2];exact aLT a b hb
 ·by_cases hb:b=0
  ·rw[(ab 12 ⟨by omega,hb⟩).1,(ab 12 ⟨by omega,hb⟩).2,hb];exact aJI a
  rw[(aa 12 (by omega)).1,(aa 12 (by omega)).2];exact aLU a b hb
 ·rw[(aa 13 (by omega)).1,(aa 13 (by omega)).2];exact aM2 a b
 ·rw[(aa 14 (by omega)).1,(aa 14 (by omega)).2];exact aM3 a b
 rw[(aa 15 (by omega)).1,(aa 15 (by omega)).2];exact aGZ a b
theorem kD{W:World}{v:Value}{xs:List Int}(h:Ints W v xs)(hp:0<xs.length):∃(b o c:Nat),v=.slice (some ⟨b,o,none⟩) xs.length c/\b<W.heap.size/\∀i,i<xs.length->W.cell? ⟨b,o+i,none⟩=some (.int .i64 (xs.getD i 0)):=by obtain⟨a,c,b,o,rfl,_,_,ha,hx⟩:=h.parts;obtain⟨rfl,hb⟩:=ha hp;exact⟨b,o,c,rfl,hb,hx⟩
def aM4(op:Int)(xs:List Int)(w:World)(e:Ending)(w':World):Prop:=e=.returned (.tuple #[.int .i64 (oO op xs),.int .i64 (pZ op xs)])/\Below w.heap.size w w'
theorem pH{op:Int}{xs:List Int}(h:op<3\/17<op\/xs.length≠qI op):oO op xs=0/\pZ op xs=1:=⟨by unfold oO;rw[if_pos h],by unfold pZ;rw[if_pos h]⟩
theorem aM5{w:World}{op:Int}{v:Value}{xs:List Int}(hv:Ints w v xs):Calls Tryz.prog 165 #[.int .i64 op,v] w (aM4 op xs w):=by
 obtain⟨a0,c0,rfl⟩:=hv.form;obtain⟨n,hn⟩:∃n,n=xs.length:=⟨_,rfl⟩;have HX:=h! hv;rw[<-hn]at HX⊢;have HN:=h! hn;clear hv hn;by_cases h16:op=16
 ·subst h16;by_cases h1:n=1
  ·subst h1;obtain⟨b,o,c,he,hb,hc⟩:=kD HX.out (by rw[<-HN.out];omega);rw[<-HN.out]at he
   cases he;have aa:=hc 0 (by rw[<-HN.out];omega);rw[dE]at aa;have HV:Hid (oO 16 xs=nS (xs.getD 0 0 == 0)/\pZ 16 xs=0):=h! (by
    have h9:¬((16:Int)<3\/(17:Int)<16\/xs.length≠qI 16):=by rw[<-HN.out];simp[qI]
    unfold oO pZ;rw[if_neg h9,if_neg h9];simp)
   clear hc;go_enter Tryz.func165,Tryz.ntmps165;go_wp2_with fail;refine(aDD _).mono ?_;rintro e w1 ⟨rfl,ah⟩;go_wp2;go_ret2;exact⟨by rw[HV.1,HV.2];rfl,ah⟩
  have HV:=h! (pH (op:=16) (xs:=xs) (by rw[<-HN.out];right;right;simpa [qI]using h1));have ht:(((n:Nat):Int) != 1)=true:=by simp;omega
  clear h1;go_enter Tryz.func165,Tryz.ntmps165;go_wp2;go_ret2;exact⟨by rw[HV.1,HV.2];rfl,Below.refl _ _⟩
 by_cases h17:op=17
 ·subst h17;by_cases h1:n=3
  ·subst h1;obtain⟨b,o,c,he,hb,hc⟩:=kD HX.out (by rw[<-HN.out];omega);rw[<-HN.out]at he
   cases he;have aa:=hc 0 (by rw[<-HN.out];omega);have ab:=hc 1 (by rw[<-HN.out];omega);have hc2:=hc 2 (by rw[<-HN.out];omega);rw[dE]at aa;have HV:Hid (oO 17 xs=(if xs.getD 0 0≠0 then xs.getD 1 0 else xs.getD 2 0)/\pZ 17 xs=0):=h! (by
    have h9:¬((17:Int)<3\/(17:Int)<17\/xs.length≠qI 17):=by rw[<-HN.out];simp[qI]
    unfold oO pZ;rw[if_neg h9,if_neg h9];simp)
   clear hc;generalize xs.getD 0 0=x0 at*;generalize xs.getD 1 0=x1 at*;generalize xs.getD 2 0=x2 at*
   cases hq:(x0 != 0)
   ·have ae:x0=0:=by simpa using hq
    have HQ:Hid (¬x0≠0):=h! (by simp[ae]);clear ae;go_enter Tryz.func165,Tryz.ntmps165;go_wp2;go_ret2;exact⟨by rw[HV.1,HV.2,if_neg HQ.out];rfl,Below.refl _ _⟩
   have HQ:Hid (x0≠0):=h! (by simpa using hq);go_enter Tryz.func165,Tryz.ntmps165;go_wp2;go_ret2;exact⟨by rw[HV.1,HV.2,if_pos HQ.out];rfl,Below.refl _ _⟩
  have HV:=h! (pH (op:=17) (xs:=xs) (by rw[<-HN.out];right;right;simpa [qI]using h1));have ht:(((n:Nat):Int) != 3)=true:=by simp;omega
  clear h1;go_enter Tryz.func165,Tryz.ntmps165;go_wp2;go_ret2;exact⟨by rw[HV.1,HV.2];rfl,Below.refl _ _⟩
 have e16:(op == 16)=false:=by simpa using h16
 have e17:(op == 17)=false:=by simpa using h17
 have ad:Hid (qI op=2):=h! (by unfold qI;rw[if_neg h16,if_neg h17])
 cases hl:decide (op<3);rotate_left
 ·have HV:=h! (pH (op:=op) (xs:=xs) (.inl (by simpa using hl)));clear h16 h17;go_enter Tryz.func165,Tryz.ntmps165;go_wp2;go_ret2;exact⟨by rw[HV.1,HV.2];rfl,Below.refl _ _⟩
 cases hg:decide (17<op);rotate_left
 ·have HV:=h! (pH (op:=op) (xs:=xs) (.inr (.inl (by simpa using hg))));clear h16 h17;go_enter Tryz.func165,Tryz.ntmps165;go_wp2;go_ret2;exact⟨by rw[HV.1,HV.2];rfl,Below.refl _ _⟩
 cases h2:((n:Int) != 2);rotate_left
 ·have HV:=h! (pH (op:=op) (xs:=xs) (.inr (.inr (by rw[ad.out,<-HN.out];simp at h2;omega))));clear h16 h17;go_enter Tryz.func165,Tryz.ntmps165;go_wp2;go_ret2;exact⟨by rw[HV.1,HV.2];rfl,Below.refl _ _⟩
 have af:n=2:=by simp at h2;omega
 subst af;have ac:Hid (3<=op/\op<=15):=h! (by simp at hl hg;omega);obtain⟨b,o,c,he,hb,hc⟩:=kD HX.out (by rw[<-HN.out];omega);rw[<-HN.out]at he
 cases he;have aa:=hc 0 (by rw[<-HN.out];omega);have ab:=hc 1 (by rw[<-HN.out];omega);rw[dE]at aa;have HV:Hid (oO op xs=twoV op (xs.getD 0 0) (xs.getD 1 0)/\pZ op xs=twoE op (xs.getD 1 0)):=h! (by
  have h9:¬(op<3\/17<op\/xs.length≠qI op):=by rw[ad.out,<-HN.out];have:=ac.out;omega
  unfold oO pZ twoV twoE;rw[if_neg h9,if_neg h9,if_neg h16,if_neg h17,if_neg h16,if_neg h17];exact⟨rfl,rfl⟩)
 obtain⟨x,hx⟩:∃x,x=xs.getD 0 0:=⟨_,rfl⟩;obtain⟨y,hy⟩:∃y,y=xs.getD 1 0:=⟨_,rfl⟩;rw[<-hx]at aa HV;rw[<-hy]at ab HV;have HC:Hid (∀W,Below w.heap.size w W->W.cell? ⟨b,o,none⟩=some (.int .i64 x)/\W.cell? ⟨b,o+1,none⟩=some (.int .i64 y)):=h! (fun W h=>⟨(h.cell (p:=⟨b,o,none⟩) hb).trans aa,(h.cell (p:=⟨b,o+1,none⟩) hb).trans ab⟩);have HW:=h! (Below.refl w.heap.size w);clear hc aa ab h16 h17 hx hy h2;have h2':((2:Int) != 2)=false:=rfl;go_enter Tryz.func165,Tryz.ntmps165;go_upto_region 16 with(fail);refine wp_region_grow 12 (fun kz=>match kz with|7=>.const (.tuple #[.int .i64 (twoV op x y),.int .i64 (twoE op y)])|_=>.plain) (by kernel_rfl) (by kernel_rfl) ?_ (fun ν=> ?_)
 ·(intro k;(try dsimp only);split<;>first|exact True.intro|(intro u w1 w2 hu hb;exact hu.below hb))
 simp only[aP,aU,aR,aV];iterate 7 (refine Grow.val (v:= ?_) rfl rfl (fun wg hbg hdg=> ?_) ?_;rotate_left;(focus((obtain⟨g0,g1⟩:=HC.out wg hbg);clear hbg hdg;first|(go_simp;done)|(go_simp;with_reducible rfl)));simp only[Act.put,aB,aE,aF])
 refine Grow.call (f:= ?_) (args:= ?_) rfl (fun wg=> ?_) (fun wg hbg hdg=> ?_) ?_;rotate_left 2;focus(first|(go_simp;done)|(go_simp;refine And.intro ?_ ?_<;>with_reducible rfl)|(go_simp;with_reducible rfl))
 focus exact Calls.mono ((twoC op x y ac.out)) (fun e w2 ⟨he,hb2⟩=>⟨_,he,rfl,hb2⟩)
 simp only[Act.put,Known.val,aB,aE,aF];iterate 4 (refine Grow.val (v:= ?_) rfl rfl (fun wg hbg hdg=> ?_) ?_;rotate_left;(focus((obtain⟨g0,g1⟩:=HC.out wg hbg);clear hbg hdg;first|(go_simp;done)|(go_simp;with_reducible rfl)));simp only[Act.put,aB,aE,aF])
 intro wg hb hf ag;clear ag;replace HW:=w! HW hb;clear hb;clear hf;go_wp2;go_ret2;exact⟨by rw[HV.1,HV.2];rfl,HW.out⟩
end Go.Proofs.YtagabiidbbhhmaaGreat
