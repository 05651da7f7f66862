/- Part 34. -/
import Derived.Test.YtcmflfkpeodicaaGreatIRA31
namespace Go.Proofs.YtcmflfkpeodicaaGreat
set_option maxHeartbeats 1600000
set_option linter.all false
open Go.RowKit
theorem bitC {w:World} (b:Bool):Calls Tryz.prog 42 #[.bool b] w (fD (.int .i64 (iT b)) w):=by
 cases b
 ·skip
  go_enter Tryz.func42,Tryz.ntmps42
  go_wp2
  go_ret
  exact ⟨rfl,Below.refl _ _⟩
 skip
 go_enter Tryz.func42,Tryz.ntmps42
 go_wp2
 go_ret
 exact ⟨rfl,Below.refl _ _⟩
theorem sN (b:Int):(IntKind.u64.wrap b).tmod 64=b % 64:=by
 have h1:IntKind.u64.wrap b=b % 18446744073709551616:=by simp [IntKind.wrap,IntKind.signed,IntKind.bits]
 rw [h1,Int.tmod_eq_emod_of_nonneg (by omega)]
 omega
set_option maxRecDepth 100000 in
theorem aG2 {w:World} {bk o c:Nat} {x y:Int} (hl:bk < w.heap.size) (hx:w.cell? ⟨bk,o,none⟩=some (.int .i64 x)) (hy:w.cell? ⟨bk,o+1,none⟩=some (.int .i64 y)) (hok:True) :
  Calls Tryz.prog 142 #[.int .i64 3,.slice (some ⟨bk,o,none⟩) 2 c] w (fD (.tuple #[.int .i64 (fH 3 x y),.int .i64 0]) w):=by
 have hc:fH 3 x y=wrap64 (x+y):=by rw [<-fR];rfl
 rw [hc]
 clear hc
 have m64:=sN y
 have h0:0 <= y % 64:=by omega
 go_enter Tryz.func142,Tryz.ntmps142
 go_wp2_with fail
 refine (show Calls Tryz.prog 140 #[.int .i64 3] w (fun e w'=>e = .returned (.tuple #[.string ⟨#[73,73]⟩,.int .i64 1,.int .i64 0,.bool true])/\w=w') from eO 3).mono ?_
 rintro e w1 ⟨rfl,rfl⟩
 go_upto_region 12 with (fail)
 go_quiet (fail);go_wp2;go_ret2;exact ⟨rfl,eK (Below.refl _ _) nq⟩
set_option maxRecDepth 100000 in
theorem aG3 {w:World} {bk o c:Nat} {x y:Int} (hl:bk < w.heap.size) (hx:w.cell? ⟨bk,o,none⟩=some (.int .i64 x)) (hy:w.cell? ⟨bk,o+1,none⟩=some (.int .i64 y)) (hok:True) :
  Calls Tryz.prog 142 #[.int .i64 4,.slice (some ⟨bk,o,none⟩) 2 c] w (fD (.tuple #[.int .i64 (fH 4 x y),.int .i64 0]) w):=by
 have hc:fH 4 x y=wrap64 (x - y):=by rw [<-fR];rfl
 rw [hc]
 clear hc
 have m64:=sN y
 have h0:0 <= y % 64:=by omega
 go_enter Tryz.func142,Tryz.ntmps142
 go_wp2_with fail
 refine (show Calls Tryz.prog 140 #[.int .i64 4] w (fun e w'=>e = .returned (.tuple #[.string ⟨#[73,73]⟩,.int .i64 1,.int .i64 0,.bool true])/\w=w') from eO 4).mono ?_
 rintro e w1 ⟨rfl,rfl⟩
 go_upto_region 14 with (fail)
 go_quiet (fail);go_wp2;go_ret2;exact ⟨rfl,eK (Below.refl _ _) nq⟩
set_option maxRecDepth 100000 in
theorem aG4 {w:World} {bk o c:Nat} {x y:Int} (hl:bk < w.heap.size) (hx:w.cell? ⟨bk,o,none⟩=some (.int .i64 x)) (hy:w.cell? ⟨bk,o+1,none⟩=some (.int .i64 y)) (hok:True) :
  Calls Tryz.prog 142 #[.int .i64 5,.slice (some ⟨bk,o,none⟩) 2 c] w (fD (.tuple #[.int .i64 (fH 5 x y),.int .i64 0]) w):=by
 have hc:fH 5 x y=wrap64 (x * y):=by rw [<-fR];rfl
 rw [hc]
 clear hc
 have m64:=sN y
 have h0:0 <= y % 64:=by omega
 go_enter Tryz.func142,Tryz.ntmps142
 go_wp2_with fail
 refine (show Calls Tryz.prog 140 #[.int .i64 5] w (fun e w'=>e = .returned (.tuple #[.string ⟨#[73,73]⟩,.int .i64 1,.int .i64 0,.bool true])/\w=w') from eO 5).mono ?_
 rintro e w1 ⟨rfl,rfl⟩
 go_upto_region 16 with (fail)
 go_quiet (fail);go_wp2;go_ret2;exact ⟨rfl,eK (Below.refl _ _) nq⟩
set_option maxRecDepth 100000 in
theorem aG5 {w:World} {bk o c:Nat} {x y:Int} (hl:bk < w.heap.size) (hx:w.cell? ⟨bk,o,none⟩=some (.int .i64 x)) (hy:w.cell? ⟨bk,o+1,none⟩=some (.int .i64 y)) (hok:True) :
  Calls Tryz.prog 142 #[.int .i64 6,.slice (some ⟨bk,o,none⟩) 2 c] w (fD (.tuple #[.int .i64 (fH 6 x y),.int .i64 0]) w):=by
 have hc:fH 6 x y=bits .and .i64 x y:=rfl
 rw [hc]
 clear hc
 have m64:=sN y
 have h0:0 <= y % 64:=by omega
 go_enter Tryz.func142,Tryz.ntmps142
 go_wp2_with fail
 refine (show Calls Tryz.prog 140 #[.int .i64 6] w (fun e w'=>e = .returned (.tuple #[.string ⟨#[73,73]⟩,.int .i64 1,.int .i64 0,.bool true])/\w=w') from eO 6).mono ?_
 rintro e w1 ⟨rfl,rfl⟩
 go_upto_region 18 with (fail)
 go_quiet (fail);go_wp2;go_ret2;exact ⟨rfl,eK (Below.refl _ _) nq⟩
set_option maxRecDepth 100000 in
theorem aG6 {w:World} {bk o c:Nat} {x y:Int} (hl:bk < w.heap.size) (hx:w.cell? ⟨bk,o,none⟩=some (.int .i64 x)) (hy:w.cell? ⟨bk,o+1,none⟩=some (.int .i64 y)) (hok:True) :
  Calls Tryz.prog 142 #[.int .i64 7,.slice (some ⟨bk,o,none⟩) 2 c] w (fD (.tuple #[.int .i64 (fH 7 x y),.int .i64 0]) w):=by
 have hc:fH 7 x y=bits .or .i64 x y:=rfl
 rw [hc]
 clear hc
 have m64:=sN y
 have h0:0 <= y % 64:=by omega
 go_enter Tryz.func142,Tryz.ntmps142
 go_wp2_with fail
 refine (show Calls Tryz.prog 140 #[.int .i64 7] w (fun e w'=>e = .returned (.tuple #[.string ⟨#[73,73]⟩,.int .i64 1,.int .i64 0,.bool true])/\w=w') from eO 7).mono ?_
 rintro e w1 ⟨rfl,rfl⟩
 go_upto_region 20 with (fail)
 go_quiet (fail);go_wp2;go_ret2;exact ⟨rfl,eK (Below.refl _ _) nq⟩
set_option maxRecDepth 100000 in
theorem aG7 {w:World} {bk o c:Nat} {x y:Int} (hl:bk < w.heap.size) (hx:w.cell? ⟨bk,o,none⟩=some (.int .i64 x)) (hy:w.cell? ⟨bk,o+1,none⟩=some (.int .i64 y)) (hok:True) :
  Calls Tryz.prog 142 #[.int .i64 8,.slice (some ⟨bk,o,none⟩) 2 c] w (fD (.tuple #[.int .i64 (fH 8 x y),.int .i64 0]) w):=by
 have hc:fH 8 x y=bits .xor .i64 x y:=rfl
 rw [hc]
 clear hc
 have m64:=sN y
 have h0:0 <= y % 64:=by omega
 go_enter Tryz.func142,Tryz.ntmps142
 go_wp2_with fail
 refine (show Calls Tryz.prog 140 #[.int .i64 8] w (fun e w'=>e = .returned (.tuple #[.string ⟨#[73,73]⟩,.int .i64 1,.int .i64 0,.bool true])/\w=w') from eO 8).mono ?_
 rintro e w1 ⟨rfl,rfl⟩
 go_upto_region 22 with (fail)
 go_quiet (fail);go_wp2;go_ret2;exact ⟨rfl,eK (Below.refl _ _) nq⟩
set_option maxRecDepth 100000 in
theorem aG8 {w:World} {bk o c:Nat} {x y:Int} (hl:bk < w.heap.size) (hx:w.cell? ⟨bk,o,none⟩=some (.int .i64 x)) (hy:w.cell? ⟨bk,o+1,none⟩=some (.int .i64 y)) (hok:True) :
  Calls Tryz.prog 142 #[.int .i64 9,.slice (some ⟨bk,o,none⟩) 2 c] w (fD (.tuple #[.int .i64 (fH 9 x y),.int .i64 0]) w):=by
 have hc:fH 9 x y=wrap64 (x * 2 ^ (y % 64).toNat):=by rw [<-fR];rfl
 rw [hc]
 clear hc
 have m64:=sN y
 have h0:0 <= y % 64:=by omega
 go_enter Tryz.func142,Tryz.ntmps142
 go_wp2_with fail
 refine (show Calls Tryz.prog 140 #[.int .i64 9] w (fun e w'=>e = .returned (.tuple #[.string ⟨#[73,73]⟩,.int .i64 1,.int .i64 0,.bool true])/\w=w') from eO 9).mono ?_
 rintro e w1 ⟨rfl,rfl⟩
 go_upto_region 24 with (fail)
 go_quiet (fail);go_wp2;go_ret2;exact ⟨rfl,eK (Below.refl _ _) nq⟩
set_option maxRecDepth 100000 in
theorem aEQ {w:World} {bk o c:Nat} {x y:Int} (hl:bk < w.heap.size) (hx:w.cell? ⟨bk,o,none⟩=some (.int .i64 x)) (hy:w.cell? ⟨bk,o+1,none⟩=some (.int .i64 y)) (hok:True) :
  Calls Tryz.prog 142 #[.int .i64 10,.slice (some ⟨bk,o,none⟩) 2 c] w (fD (.tuple #[.int .i64 (fH 10 x y),.int .i64 0]) w):=by
 have hc:fH 10 x y=wrap64 (IntKind.u64.wrap x / 2 ^ (y % 64).toNat):=by rw [<-fR];rfl
 rw [hc]
 clear hc
 have m64:=sN y
 have h0:0 <= y % 64:=by omega
 go_enter Tryz.func142,Tryz.ntmps142
 go_wp2_with fail
 refine (show Calls Tryz.prog 140 #[.int .i64 10] w (fun e w'=>e = .returned (.tuple #[.string ⟨#[73,73]⟩,.int .i64 1,.int .i64 0,.bool true])/\w=w') from eO 10).mono ?_
 rintro e w1 ⟨rfl,rfl⟩
 go_upto_region 26 with (fail)
 go_quiet (fail);go_wp2;go_ret2;exact ⟨rfl,eK (Below.refl _ _) nq⟩
set_option maxRecDepth 100000 in
theorem aER {w:World} {bk o c:Nat} {x y:Int} (hl:bk < w.heap.size) (hx:w.cell? ⟨bk,o,none⟩=some (.int .i64 x)) (hy:w.cell? ⟨bk,o+1,none⟩=some (.int .i64 y)) :
  Calls Tryz.prog 142 #[.int .i64 13,.slice (some ⟨bk,o,none⟩) 2 c] w (fD (.tuple #[.int .i64 (fH 13 x y),.int .i64 0]) w):=by
 have hc:fH 13 x y=iT (x == y):=rfl
 rw [hc]
 clear hc
 go_enter Tryz.func142,Tryz.ntmps142
 go_wp2_with fail
 refine (show Calls Tryz.prog 140 #[.int .i64 13] w (fun e w'=>e = .returned (.tuple #[.string ⟨#[73,73]⟩,.int .i64 2,.int .i64 0,.bool true])/\w=w') from eO 13).mono ?_
 rintro e w1 ⟨rfl,rfl⟩
 have HW:Hid (Below w.heap.size w w):=h! (Below.refl _ _)
 go_upto_region 28 with (fail)
 refine wp_region_grow 10 (fun kz=>match kz with | 7=>.const (.int .i64 (iT (x == y))) | _=>.plain) (by kernel_rfl) (by kernel_rfl) ?_ (fun ν => ?_)
 ·(intro k;(try dsimp only);split <;> first | exact True.intro | (intro u w1 w2 hu hb;exact hu.below hb))
 simp only [aK,aR,aM,aT]
 iterate 7 (refine Grow.val (v := ?_) rfl rfl (fun wg hbg hdg => ?_) ?_;rotate_left;(focus ((have hxg:=(hbg.cell (p:=⟨bk,o,none⟩) hl).trans hx;have hyg:=(hbg.cell (p:=⟨bk,o+1,none⟩) hl).trans hy);clear hbg hdg;first | (go_simp;done) | (go_simp;with_reducible rfl)));simp only [Act.put,aA,aC,aD])
 refine Grow.call (f := ?_) (args := ?_) rfl (fun wg => ?_) (fun wg hbg hdg => ?_) ?_
 rotate_left 2
 focus (first | (go_simp;done) | (go_simp;refine And.intro ?_ ?_ <;> with_reducible rfl) | (go_simp;with_reducible rfl))
 focus exact Calls.mono (bitC (x == y)) (fun e w2 ⟨he,hb2⟩=>⟨_,he,rfl,hb2⟩)
 simp only [Act.put,Known.val,aA,aC,aD]
 iterate 2 (refine Grow.val (v := ?_) rfl rfl (fun wg hbg hdg => ?_) ?_;rotate_left;(focus ((have hxg:=(hbg.cell (p:=⟨bk,o,none⟩) hl).trans hx;have hyg:=(hbg.cell (p:=⟨bk,o+1,none⟩) hl).trans hy);clear hbg hdg;first | (go_simp;done) | (go_simp;with_reducible rfl)));simp only [Act.put,aA,aC,aD])
 intro wg hb hf hap
 clear hap
 replace HW:=h! (HW.out.trans (hb.mono HW.out.size))
 clear hb
 clear hf hx hy
 go_wp2
 go_ret2
 exact ⟨rfl,HW.out⟩
set_option maxRecDepth 100000 in
theorem aES {w:World} {bk o c:Nat} {x y:Int} (hl:bk < w.heap.size) (hx:w.cell? ⟨bk,o,none⟩=some (.int .i64 x)) (hy:w.cell? ⟨bk,o+1,none⟩=some (.int .i64 y)) :
  Calls Tryz.prog 142 #[.int .i64 14,.slice (some ⟨bk,o,none⟩) 2 c] w (fD (.tuple #[.int .i64 (fH 14 x y),.int .i64 0]) w):=by
 have hc:fH 14 x y=iT (decide (x < y)):=rfl
 rw [hc]
 clear hc
 go_enter Tryz.func142,Tryz.ntmps142
 go_wp2_with fail
 refine (show Calls Tryz.prog 140 #[.int .i64 14] w (fun e w'=>e = .returned (.tuple #[.string ⟨#[73,73]⟩,.int .i64 2,.int .i64 0,.bool true])/\w=w') from eO 14).mono ?_
 rintro e w1 ⟨rfl,rfl⟩
 have HW:Hid (Below w.heap.size w w):=h! (Below.refl _ _)
 go_upto_region 30 with (fail)
 refine wp_region_grow 10 (fun kz=>match kz with | 7=>.const (.int .i64 (iT (decide (x < y)))) | _=>.plain) (by kernel_rfl) (by kernel_rfl) ?_ (fun ν => ?_)
 ·(intro k;(try dsimp only);split <;> first | exact True.intro | (intro u w1 w2 hu hb;exact hu.below hb))
 simp only [aK,aR,aM,aT]
 iterate 7 (refine Grow.val (v := ?_) rfl rfl (fun wg hbg hdg => ?_) ?_;rotate_left;(focus ((have hxg:=(hbg.cell (p:=⟨bk,o,none⟩) hl).trans hx;have hyg:=(hbg.cell (p:=⟨bk,o+1,none⟩) hl).trans hy);clear hbg hdg;first | (go_simp;done) | (go_simp;with_reducible rfl)));simp only [Act.put,aA,aC,aD])
 refine Grow.call (f := ?_) (args := ?_) rfl (fun wg => ?_) (fun wg hbg hdg => ?_) ?_
 rotate_left 2
 focus (first | (go_simp;done) | (go_simp;refine And.intro ?_ ?_ <;> with_reducible rfl) | (go_simp;with_reducible rfl))
 focus exact Calls.mono (bitC (decide (x < y))) (fun e w2 ⟨he,hb2⟩=>⟨_,he,rfl,hb2⟩)
 simp only [Act.put,Known.val,aA,aC,aD]
 iterate 2 (refine Grow.val (v := ?_) rfl rfl (fun wg hbg hdg => ?_) ?_;rotate_left;(focus ((have hxg:=(hbg.cell (p:=⟨bk,o,none⟩) hl).trans hx;have hyg:=(hbg.cell (p:=⟨bk,o+1,none⟩) hl).trans hy);clear hbg hdg;first | (go_simp;done) | (go_simp;with_reducible rfl)));simp only [Act.put,aA,aC,aD])
 intro wg hb hf hap
 clear hap
 replace HW:=h! (HW.out.trans (hb.mono HW.out.size))
 clear hb
 clear hf hx hy
 go_wp2
 go_ret2
 exact ⟨rfl,HW.out⟩
set_option maxRecDepth 100000 in
theorem aET {w:World} {bk o c:Nat} {x y:Int} (hl:bk < w.heap.size) (hx:w.cell? ⟨bk,o,none⟩=some (.int .i64 x)) (hy:w.cell? ⟨bk,o+1,none⟩=some (.int .i64 y)) :
  Calls Tryz.prog 142 #[.int .i64 15,.slice (some ⟨bk,o,none⟩) 2 c] w (fD (.tuple #[.int .i64 (fH 15 x y),.int .i64 0]) w):=by
 have hc:fH 15 x y=iT (decide (IntKind.u64.wrap x < IntKind.u64.wrap y)):=rfl
 rw [hc]
 clear hc
 go_enter Tryz.func142,Tryz.ntmps142
 go_wp2_with fail
 refine (show Calls Tryz.prog 140 #[.int .i64 15] w (fun e w'=>e = .returned (.tuple #[.string ⟨#[73,73]⟩,.int .i64 2,.int .i64 0,.bool true])/\w=w') from eO 15).mono ?_
 rintro e w1 ⟨rfl,rfl⟩
 have HW:Hid (Below w.heap.size w w):=h! (Below.refl _ _)
 go_upto_region 32 with (fail)
 refine wp_region_grow 12 (fun kz=>match kz with | 9=>.const (.int .i64 (iT (decide (IntKind.u64.wrap x < IntKind.u64.wrap y)))) | _=>.plain) (by kernel_rfl) (by kernel_rfl) ?_ (fun ν => ?_)
 ·(intro k;(try dsimp only);split <;> first | exact True.intro | (intro u w1 w2 hu hb;exact hu.below hb))
 simp only [aK,aR,aM,aT]
 iterate 9 (refine Grow.val (v := ?_) rfl rfl (fun wg hbg hdg => ?_) ?_;rotate_left;(focus ((have hxg:=(hbg.cell (p:=⟨bk,o,none⟩) hl).trans hx;have hyg:=(hbg.cell (p:=⟨bk,o+1,none⟩) hl).trans hy);clear hbg hdg;first | (go_simp;done) | (go_simp;with_reducible rfl)));simp only [Act.put,aA,aC,aD])
 refine Grow.call (f := ?_) (args := ?_) rfl (fun wg => ?_) (fun wg hbg hdg => ?_) ?_
 rotate_left 2
 focus (first | (go_simp;done) | (go_simp;refine And.intro ?_ ?_ <;> with_reducible rfl) | (go_simp;with_reducible rfl))
 focus exact Calls.mono (bitC (decide (IntKind.u64.wrap x < IntKind.u64.wrap y))) (fun e w2 ⟨he,hb2⟩=>⟨_,he,rfl,hb2⟩)
 simp only [Act.put,Known.val,aA,aC,aD]
 iterate 2 (refine Grow.val (v := ?_) rfl rfl (fun wg hbg hdg => ?_) ?_;rotate_left;(focus ((have hxg:=(hbg.cell (p:=⟨bk,o,none⟩) hl).trans hx;have hyg:=(hbg.cell (p:=⟨bk,o+1,none⟩) hl).trans hy);clear hbg hdg;first | (go_simp;done) | (go_simp;with_reducible rfl)));simp only [Act.put,aA,aC,aD])
 intro wg hb hf hap
 clear hap
 replace HW:=h! (HW.out.trans (hb.mono HW.out.size))
 clear hb
 clear hf hx hy
 go_wp2
 go_ret2
 exact ⟨rfl,HW.out⟩
set_option maxRecDepth 100000 in
theorem aEU {w:World} {bk o c:Nat} {x y:Int} (hl:bk < w.heap.size) (hx:w.cell? ⟨bk,o,none⟩=some (.int .i64 x)) (hy:w.cell? ⟨bk,o+1,none⟩=some (.int .i64 y)) (h0:¬ y=0) :
  Calls Tryz.prog 142 #[.int .i64 11,.slice (some ⟨bk,o,none⟩) 2 c] w (fD (.tuple #[.int .i64 (fH 11 x y),.int .i64 0]) w):=by
 have hc:fH 11 x y=wrap64 (x.tdiv y):=by rw [<-fR];rfl
 rw [hc]
 clear hc
 have hq:(y == 0)=false:=by simpa using h0
 go_enter Tryz.func142,Tryz.ntmps142
 go_wp2_with fail
 refine (show Calls Tryz.prog 140 #[.int .i64 11] w (fun e w'=>e = .returned (.tuple #[.string ⟨#[73,73]⟩,.int .i64 1,.int .i64 0,.bool true])/\w=w') from eO 11).mono ?_
 rintro e w1 ⟨rfl,rfl⟩
 go_upto_region 36 with (fail)
 go_quiet (fail)
 go_wp2
 go_ret2
 exact ⟨rfl,eK (Below.refl _ _) nq⟩
set_option maxRecDepth 100000 in
theorem aCK {w:World} {bk o c:Nat} (hl:bk < w.heap.size) (hy:w.cell? ⟨bk,o+1,none⟩=some (.int .i64 0)) :
  Calls Tryz.prog 142 #[.int .i64 11,.slice (some ⟨bk,o,none⟩) 2 c] w (fD (.tuple #[.int .i64 0,.int .i64 9]) w):=by
 go_enter Tryz.func142,Tryz.ntmps142
 go_wp2_with fail
 refine (show Calls Tryz.prog 140 #[.int .i64 11] w (fun e w'=>e = .returned (.tuple #[.string ⟨#[73,73]⟩,.int .i64 1,.int .i64 0,.bool true])/\w=w') from eO 11).mono ?_
 rintro e w1 ⟨rfl,rfl⟩
 go_wp2
 go_ret2
 exact ⟨rfl,Below.refl _ _⟩
set_option maxRecDepth 100000 in
theorem aEV {w:World} {bk o c:Nat} {x y:Int} (hl:bk < w.heap.size) (hx:w.cell? ⟨bk,o,none⟩=some (.int .i64 x)) (hy:w.cell? ⟨bk,o+1,none⟩=some (.int .i64 y)) (h0:¬ y=0) :
  Calls Tryz.prog 142 #[.int .i64 12,.slice (some ⟨bk,o,none⟩) 2 c] w (fD (.tuple #[.int .i64 (fH 12 x y),.int .i64 0]) w):=by
 have hc:fH 12 x y=x.tmod y:=rfl
 rw [hc]
 clear hc
 have hq:(y == 0)=false:=by simpa using h0
 go_enter Tryz.func142,Tryz.ntmps142
 go_wp2_with fail
 refine (show Calls Tryz.prog 140 #[.int .i64 12] w (fun e w'=>e = .returned (.tuple #[.string ⟨#[73,73]⟩,.int .i64 1,.int .i64 0,.bool true])/\w=w') from eO 12).mono ?_
 rintro e w1 ⟨rfl,rfl⟩
 go_upto_region 37 with (fail)
 go_quiet (fail)
 go_wp2
 go_ret2
 exact ⟨rfl,eK (Below.refl _ _) nq⟩
set_option maxRecDepth 100000 in
theorem aCL {w:World} {bk o c:Nat} (hl:bk < w.heap.size) (hy:w.cell? ⟨bk,o+1,none⟩=some (.int .i64 0)) :
  Calls Tryz.prog 142 #[.int .i64 12,.slice (some ⟨bk,o,none⟩) 2 c] w (fD (.tuple #[.int .i64 0,.int .i64 9]) w):=by
 go_enter Tryz.func142,Tryz.ntmps142
 go_wp2_with fail
 refine (show Calls Tryz.prog 140 #[.int .i64 12] w (fun e w'=>e = .returned (.tuple #[.string ⟨#[73,73]⟩,.int .i64 1,.int .i64 0,.bool true])/\w=w') from eO 12).mono ?_
 rintro e w1 ⟨rfl,rfl⟩
 go_wp2
 go_ret2
 exact ⟨rfl,Below.refl _ _⟩
end Go.Proofs.YtcmflfkpeodicaaGreat
