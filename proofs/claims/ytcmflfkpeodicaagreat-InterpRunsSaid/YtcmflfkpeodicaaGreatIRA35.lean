/- Part 35. -/
import Derived.Test.YtcmflfkpeodicaaGreatIRA34
namespace Go.Proofs.YtcmflfkpeodicaaGreat
set_option maxHeartbeats 1600000
set_option linter.all false
open Go.RowKit
set_option maxRecDepth 100000 in
theorem aFV {w:World} {a:Option Addr} {n c:Nat}:Calls Tryz.prog 142 #[.int .i64 1,.slice a n c] w (fD (.tuple #[.int .i64 0,.int .i64 1]) w):=by
 go_enter Tryz.func142,Tryz.ntmps142
 go_wp2_with fail
 refine (show Calls Tryz.prog 140 #[.int .i64 1] w (fun e w'=>e = .returned (.tuple #[.string ⟨#[]⟩,.int .i64 1,.int .i64 1,.bool true])/\w=w') from eO 1).mono ?_
 rintro e w1 ⟨rfl,rfl⟩
 go_wp2
 go_ret2
 exact ⟨rfl,Below.refl _ _⟩
set_option maxRecDepth 100000 in
theorem aFW {w:World} {a:Option Addr} {n c:Nat}:Calls Tryz.prog 142 #[.int .i64 2,.slice a n c] w (fD (.tuple #[.int .i64 0,.int .i64 1]) w):=by
 go_enter Tryz.func142,Tryz.ntmps142
 go_wp2_with fail
 refine (show Calls Tryz.prog 140 #[.int .i64 2] w (fun e w'=>e = .returned (.tuple #[.string ⟨#[]⟩,.int .i64 2,.int .i64 2,.bool true])/\w=w') from eO 2).mono ?_
 rintro e w1 ⟨rfl,rfl⟩
 go_wp2
 go_ret2
 exact ⟨rfl,Below.refl _ _⟩
set_option maxRecDepth 100000 in
theorem aDG {w:World} {a:Option Addr} {n c:Nat}:Calls Tryz.prog 142 #[.int .i64 18,.slice a n c] w (fD (.tuple #[.int .i64 0,.int .i64 1]) w):=by
 go_enter Tryz.func142,Tryz.ntmps142
 go_wp2_with fail
 refine (show Calls Tryz.prog 140 #[.int .i64 18] w (fun e w'=>e = .returned (.tuple #[.string ⟨#[]⟩,.int .i64 1,.int .i64 3,.bool true])/\w=w') from eO 18).mono ?_
 rintro e w1 ⟨rfl,rfl⟩
 go_wp2
 go_ret2
 exact ⟨rfl,Below.refl _ _⟩
set_option maxRecDepth 100000 in
theorem aDH {w:World} {a:Option Addr} {n c:Nat}:Calls Tryz.prog 142 #[.int .i64 19,.slice a n c] w (fD (.tuple #[.int .i64 0,.int .i64 1]) w):=by
 go_enter Tryz.func142,Tryz.ntmps142
 go_wp2_with fail
 refine (show Calls Tryz.prog 140 #[.int .i64 19] w (fun e w'=>e = .returned (.tuple #[.string ⟨#[73]⟩,.int .i64 1,.int .i64 3,.bool true])/\w=w') from eO 19).mono ?_
 rintro e w1 ⟨rfl,rfl⟩
 go_wp2
 go_ret2
 exact ⟨rfl,Below.refl _ _⟩
set_option maxRecDepth 100000 in
theorem aDI {w:World} {a:Option Addr} {n c:Nat}:Calls Tryz.prog 142 #[.int .i64 20,.slice a n c] w (fD (.tuple #[.int .i64 0,.int .i64 1]) w):=by
 go_enter Tryz.func142,Tryz.ntmps142
 go_wp2_with fail
 refine (show Calls Tryz.prog 140 #[.int .i64 20] w (fun e w'=>e = .returned (.tuple #[.string ⟨#[73,73]⟩,.int .i64 0,.int .i64 3,.bool true])/\w=w') from eO 20).mono ?_
 rintro e w1 ⟨rfl,rfl⟩
 go_wp2
 go_ret2
 exact ⟨rfl,Below.refl _ _⟩
set_option maxRecDepth 100000 in
theorem aDJ {w:World} {a:Option Addr} {n c:Nat}:Calls Tryz.prog 142 #[.int .i64 21,.slice a n c] w (fD (.tuple #[.int .i64 0,.int .i64 1]) w):=by
 go_enter Tryz.func142,Tryz.ntmps142
 go_wp2_with fail
 refine (show Calls Tryz.prog 140 #[.int .i64 21] w (fun e w'=>e = .returned (.tuple #[.string ⟨#[73]⟩,.int .i64 1,.int .i64 3,.bool true])/\w=w') from eO 21).mono ?_
 rintro e w1 ⟨rfl,rfl⟩
 go_wp2
 go_ret2
 exact ⟨rfl,Below.refl _ _⟩
set_option maxRecDepth 100000 in
theorem aDK {w:World} {a:Option Addr} {n c:Nat}:Calls Tryz.prog 142 #[.int .i64 22,.slice a n c] w (fD (.tuple #[.int .i64 0,.int .i64 1]) w):=by
 go_enter Tryz.func142,Tryz.ntmps142
 go_wp2_with fail
 refine (show Calls Tryz.prog 140 #[.int .i64 22] w (fun e w'=>e = .returned (.tuple #[.string ⟨#[73,73]⟩,.int .i64 0,.int .i64 3,.bool true])/\w=w') from eO 22).mono ?_
 rintro e w1 ⟨rfl,rfl⟩
 go_wp2
 go_ret2
 exact ⟨rfl,Below.refl _ _⟩
set_option maxRecDepth 100000 in
theorem aDL {w:World} {a:Option Addr} {n c:Nat}:Calls Tryz.prog 142 #[.int .i64 23,.slice a n c] w (fD (.tuple #[.int .i64 0,.int .i64 1]) w):=by
 go_enter Tryz.func142,Tryz.ntmps142
 go_wp2_with fail
 refine (show Calls Tryz.prog 140 #[.int .i64 23] w (fun e w'=>e = .returned (.tuple #[.string ⟨#[73]⟩,.int .i64 0,.int .i64 0,.bool true])/\w=w') from eO 23).mono ?_
 rintro e w1 ⟨rfl,rfl⟩
 go_wp2
 go_ret2
 exact ⟨rfl,Below.refl _ _⟩
set_option maxRecDepth 100000 in
theorem aDM {w:World} {a:Option Addr} {n c:Nat}:Calls Tryz.prog 142 #[.int .i64 24,.slice a n c] w (fD (.tuple #[.int .i64 0,.int .i64 1]) w):=by
 go_enter Tryz.func142,Tryz.ntmps142
 go_wp2_with fail
 refine (show Calls Tryz.prog 140 #[.int .i64 24] w (fun e w'=>e = .returned (.tuple #[.string ⟨#[]⟩,.int .i64 1,.int .i64 4,.bool true])/\w=w') from eO 24).mono ?_
 rintro e w1 ⟨rfl,rfl⟩
 go_wp2
 go_ret2
 exact ⟨rfl,Below.refl _ _⟩
set_option maxRecDepth 100000 in
theorem aDN {w:World} {a:Option Addr} {n c:Nat}:Calls Tryz.prog 142 #[.int .i64 25,.slice a n c] w (fD (.tuple #[.int .i64 0,.int .i64 1]) w):=by
 go_enter Tryz.func142,Tryz.ntmps142
 go_wp2_with fail
 refine (show Calls Tryz.prog 140 #[.int .i64 25] w (fun e w'=>e = .returned (.tuple #[.string ⟨#[73]⟩,.int .i64 0,.int .i64 4,.bool true])/\w=w') from eO 25).mono ?_
 rintro e w1 ⟨rfl,rfl⟩
 go_wp2
 go_ret2
 exact ⟨rfl,Below.refl _ _⟩
set_option maxRecDepth 100000 in
theorem aFX {w:World} {a:Option Addr} {n c:Nat} (h:¬ n=2):Calls Tryz.prog 142 #[.int .i64 3,.slice a n c] w (fD (.tuple #[.int .i64 0,.int .i64 1]) w):=by
 have ht:(((n:Nat):Int) != 2)=true:=by simp;omega
 clear h
 go_enter Tryz.func142,Tryz.ntmps142
 go_wp2_with fail
 refine (show Calls Tryz.prog 140 #[.int .i64 3] w (fun e w'=>e = .returned (.tuple #[.string ⟨#[73,73]⟩,.int .i64 1,.int .i64 0,.bool true])/\w=w') from eO 3).mono ?_
 rintro e w1 ⟨rfl,rfl⟩
 go_wp2
 go_ret2
 exact ⟨rfl,Below.refl _ _⟩
set_option maxRecDepth 100000 in
theorem aFY {w:World} {a:Option Addr} {n c:Nat} (h:¬ n=2):Calls Tryz.prog 142 #[.int .i64 4,.slice a n c] w (fD (.tuple #[.int .i64 0,.int .i64 1]) w):=by
 have ht:(((n:Nat):Int) != 2)=true:=by simp;omega
 clear h
 go_enter Tryz.func142,Tryz.ntmps142
 go_wp2_with fail
 refine (show Calls Tryz.prog 140 #[.int .i64 4] w (fun e w'=>e = .returned (.tuple #[.string ⟨#[73,73]⟩,.int .i64 1,.int .i64 0,.bool true])/\w=w') from eO 4).mono ?_
 rintro e w1 ⟨rfl,rfl⟩
 go_wp2
 go_ret2
 exact ⟨rfl,Below.refl _ _⟩
set_option maxRecDepth 100000 in
theorem aFZ {w:World} {a:Option Addr} {n c:Nat} (h:¬ n=2):Calls Tryz.prog 142 #[.int .i64 5,.slice a n c] w (fD (.tuple #[.int .i64 0,.int .i64 1]) w):=by
 have ht:(((n:Nat):Int) != 2)=true:=by simp;omega
 clear h
 go_enter Tryz.func142,Tryz.ntmps142
 go_wp2_with fail
 refine (show Calls Tryz.prog 140 #[.int .i64 5] w (fun e w'=>e = .returned (.tuple #[.string ⟨#[73,73]⟩,.int .i64 1,.int .i64 0,.bool true])/\w=w') from eO 5).mono ?_
 rintro e w1 ⟨rfl,rfl⟩
 go_wp2
 go_ret2
 exact ⟨rfl,Below.refl _ _⟩
set_option maxRecDepth 100000 in
theorem aF0 {w:World} {a:Option Addr} {n c:Nat} (h:¬ n=2):Calls Tryz.prog 142 #[.int .i64 6,.slice a n c] w (fD (.tuple #[.int .i64 0,.int .i64 1]) w):=by
 have ht:(((n:Nat):Int) != 2)=true:=by simp;omega
 clear h
 go_enter Tryz.func142,Tryz.ntmps142
 go_wp2_with fail
 refine (show Calls Tryz.prog 140 #[.int .i64 6] w (fun e w'=>e = .returned (.tuple #[.string ⟨#[73,73]⟩,.int .i64 1,.int .i64 0,.bool true])/\w=w') from eO 6).mono ?_
 rintro e w1 ⟨rfl,rfl⟩
 go_wp2
 go_ret2
 exact ⟨rfl,Below.refl _ _⟩
set_option maxRecDepth 100000 in
theorem aF1 {w:World} {a:Option Addr} {n c:Nat} (h:¬ n=2):Calls Tryz.prog 142 #[.int .i64 7,.slice a n c] w (fD (.tuple #[.int .i64 0,.int .i64 1]) w):=by
 have ht:(((n:Nat):Int) != 2)=true:=by simp;omega
 clear h
 go_enter Tryz.func142,Tryz.ntmps142
 go_wp2_with fail
 refine (show Calls Tryz.prog 140 #[.int .i64 7] w (fun e w'=>e = .returned (.tuple #[.string ⟨#[73,73]⟩,.int .i64 1,.int .i64 0,.bool true])/\w=w') from eO 7).mono ?_
 rintro e w1 ⟨rfl,rfl⟩
 go_wp2
 go_ret2
 exact ⟨rfl,Below.refl _ _⟩
set_option maxRecDepth 100000 in
theorem aF2 {w:World} {a:Option Addr} {n c:Nat} (h:¬ n=2):Calls Tryz.prog 142 #[.int .i64 8,.slice a n c] w (fD (.tuple #[.int .i64 0,.int .i64 1]) w):=by
 have ht:(((n:Nat):Int) != 2)=true:=by simp;omega
 clear h
 go_enter Tryz.func142,Tryz.ntmps142
 go_wp2_with fail
 refine (show Calls Tryz.prog 140 #[.int .i64 8] w (fun e w'=>e = .returned (.tuple #[.string ⟨#[73,73]⟩,.int .i64 1,.int .i64 0,.bool true])/\w=w') from eO 8).mono ?_
 rintro e w1 ⟨rfl,rfl⟩
 go_wp2
 go_ret2
 exact ⟨rfl,Below.refl _ _⟩
set_option maxRecDepth 100000 in
theorem aF3 {w:World} {a:Option Addr} {n c:Nat} (h:¬ n=2):Calls Tryz.prog 142 #[.int .i64 9,.slice a n c] w (fD (.tuple #[.int .i64 0,.int .i64 1]) w):=by
 have ht:(((n:Nat):Int) != 2)=true:=by simp;omega
 clear h
 go_enter Tryz.func142,Tryz.ntmps142
 go_wp2_with fail
 refine (show Calls Tryz.prog 140 #[.int .i64 9] w (fun e w'=>e = .returned (.tuple #[.string ⟨#[73,73]⟩,.int .i64 1,.int .i64 0,.bool true])/\w=w') from eO 9).mono ?_
 rintro e w1 ⟨rfl,rfl⟩
 go_wp2
 go_ret2
 exact ⟨rfl,Below.refl _ _⟩
set_option maxRecDepth 100000 in
theorem aDO {w:World} {a:Option Addr} {n c:Nat} (h:¬ n=2):Calls Tryz.prog 142 #[.int .i64 10,.slice a n c] w (fD (.tuple #[.int .i64 0,.int .i64 1]) w):=by
 have ht:(((n:Nat):Int) != 2)=true:=by simp;omega
 clear h
 go_enter Tryz.func142,Tryz.ntmps142
 go_wp2_with fail
 refine (show Calls Tryz.prog 140 #[.int .i64 10] w (fun e w'=>e = .returned (.tuple #[.string ⟨#[73,73]⟩,.int .i64 1,.int .i64 0,.bool true])/\w=w') from eO 10).mono ?_
 rintro e w1 ⟨rfl,rfl⟩
 go_wp2
 go_ret2
 exact ⟨rfl,Below.refl _ _⟩
set_option maxRecDepth 100000 in
theorem aDP {w:World} {a:Option Addr} {n c:Nat} (h:¬ n=2):Calls Tryz.prog 142 #[.int .i64 11,.slice a n c] w (fD (.tuple #[.int .i64 0,.int .i64 1]) w):=by
 have ht:(((n:Nat):Int) != 2)=true:=by simp;omega
 clear h
 go_enter Tryz.func142,Tryz.ntmps142
 go_wp2_with fail
 refine (show Calls Tryz.prog 140 #[.int .i64 11] w (fun e w'=>e = .returned (.tuple #[.string ⟨#[73,73]⟩,.int .i64 1,.int .i64 0,.bool true])/\w=w') from eO 11).mono ?_
 rintro e w1 ⟨rfl,rfl⟩
 go_wp2
 go_ret2
 exact ⟨rfl,Below.refl _ _⟩
set_option maxRecDepth 100000 in
theorem aDQ {w:World} {a:Option Addr} {n c:Nat} (h:¬ n=2):Calls Tryz.prog 142 #[.int .i64 12,.slice a n c] w (fD (.tuple #[.int .i64 0,.int .i64 1]) w):=by
 have ht:(((n:Nat):Int) != 2)=true:=by simp;omega
 clear h
 go_enter Tryz.func142,Tryz.ntmps142
 go_wp2_with fail
 refine (show Calls Tryz.prog 140 #[.int .i64 12] w (fun e w'=>e = .returned (.tuple #[.string ⟨#[73,73]⟩,.int .i64 1,.int .i64 0,.bool true])/\w=w') from eO 12).mono ?_
 rintro e w1 ⟨rfl,rfl⟩
 go_wp2
 go_ret2
 exact ⟨rfl,Below.refl _ _⟩
set_option maxRecDepth 100000 in
theorem aDR {w:World} {a:Option Addr} {n c:Nat} (h:¬ n=2):Calls Tryz.prog 142 #[.int .i64 13,.slice a n c] w (fD (.tuple #[.int .i64 0,.int .i64 1]) w):=by
 have ht:(((n:Nat):Int) != 2)=true:=by simp;omega
 clear h
 go_enter Tryz.func142,Tryz.ntmps142
 go_wp2_with fail
 refine (show Calls Tryz.prog 140 #[.int .i64 13] w (fun e w'=>e = .returned (.tuple #[.string ⟨#[73,73]⟩,.int .i64 2,.int .i64 0,.bool true])/\w=w') from eO 13).mono ?_
 rintro e w1 ⟨rfl,rfl⟩
 go_wp2
 go_ret2
 exact ⟨rfl,Below.refl _ _⟩
set_option maxRecDepth 100000 in
theorem aDS {w:World} {a:Option Addr} {n c:Nat} (h:¬ n=2):Calls Tryz.prog 142 #[.int .i64 14,.slice a n c] w (fD (.tuple #[.int .i64 0,.int .i64 1]) w):=by
 have ht:(((n:Nat):Int) != 2)=true:=by simp;omega
 clear h
 go_enter Tryz.func142,Tryz.ntmps142
 go_wp2_with fail
 refine (show Calls Tryz.prog 140 #[.int .i64 14] w (fun e w'=>e = .returned (.tuple #[.string ⟨#[73,73]⟩,.int .i64 2,.int .i64 0,.bool true])/\w=w') from eO 14).mono ?_
 rintro e w1 ⟨rfl,rfl⟩
 go_wp2
 go_ret2
 exact ⟨rfl,Below.refl _ _⟩
set_option maxRecDepth 100000 in
theorem aDT {w:World} {a:Option Addr} {n c:Nat} (h:¬ n=2):Calls Tryz.prog 142 #[.int .i64 15,.slice a n c] w (fD (.tuple #[.int .i64 0,.int .i64 1]) w):=by
 have ht:(((n:Nat):Int) != 2)=true:=by simp;omega
 clear h
 go_enter Tryz.func142,Tryz.ntmps142
 go_wp2_with fail
 refine (show Calls Tryz.prog 140 #[.int .i64 15] w (fun e w'=>e = .returned (.tuple #[.string ⟨#[73,73]⟩,.int .i64 2,.int .i64 0,.bool true])/\w=w') from eO 15).mono ?_
 rintro e w1 ⟨rfl,rfl⟩
 go_wp2
 go_ret2
 exact ⟨rfl,Below.refl _ _⟩
set_option maxRecDepth 100000 in
theorem aDU {w:World} {a:Option Addr} {n c:Nat} (h:¬ n=1):Calls Tryz.prog 142 #[.int .i64 16,.slice a n c] w (fD (.tuple #[.int .i64 0,.int .i64 1]) w):=by
 have ht:(((n:Nat):Int) != 1)=true:=by simp;omega
 clear h
 go_enter Tryz.func142,Tryz.ntmps142
 go_wp2_with fail
 refine (show Calls Tryz.prog 140 #[.int .i64 16] w (fun e w'=>e = .returned (.tuple #[.string ⟨#[66]⟩,.int .i64 2,.int .i64 0,.bool true])/\w=w') from eO 16).mono ?_
 rintro e w1 ⟨rfl,rfl⟩
 go_wp2
 go_ret2
 exact ⟨rfl,Below.refl _ _⟩
set_option maxRecDepth 100000 in
theorem aDV {w:World} {a:Option Addr} {n c:Nat} (h:¬ n=3):Calls Tryz.prog 142 #[.int .i64 17,.slice a n c] w (fD (.tuple #[.int .i64 0,.int .i64 1]) w):=by
 have ht:(((n:Nat):Int) != 3)=true:=by simp;omega
 clear h
 go_enter Tryz.func142,Tryz.ntmps142
 go_wp2_with fail
 refine (show Calls Tryz.prog 140 #[.int .i64 17] w (fun e w'=>e = .returned (.tuple #[.string ⟨#[66,73,73]⟩,.int .i64 1,.int .i64 0,.bool true])/\w=w') from eO 17).mono ?_
 rintro e w1 ⟨rfl,rfl⟩
 go_wp2
 go_ret2
 exact ⟨rfl,Below.refl _ _⟩
set_option maxRecDepth 100000 in
theorem aHX {w:World} {op:Int} (h:op < 1 \/ 25 < op) {a:Option Addr} {n c:Nat}:Calls Tryz.prog 142 #[.int .i64 op,.slice a n c] w (fD (.tuple #[.int .i64 0,.int .i64 1]) w):=by
 have hs:shp op=none:=by unfold shp;repeat (rw [if_neg (by omega)])
 have hs0:shp0 op=⟨0,[],0⟩:=by unfold shp0;rw [hs];rfl
 have HS:=h! (show eU op w=fun e w'=>e = .returned (.tuple #[.string ⟨#[]⟩,.int .i64 0,.int .i64 0,.bool false])/\w=w' by unfold eU;rw [hs0,hs];rfl)
 have HC:=h! (eO (w:=w) op)
 rw [HS.out] at HC
 clear h hs hs0
 go_enter Tryz.func142,Tryz.ntmps142
 go_wp2_with fail
 refine HC.out.mono ?_
 rintro e w1 ⟨rfl,rfl⟩
 go_wp2
 go_ret2
 exact ⟨rfl,Below.refl _ _⟩
set_option maxRecDepth 100000 in
theorem aDW {w:World} {bk o c:Nat} {x:Int} (hl:bk < w.heap.size) (hx:w.cell? ⟨bk,o,none⟩=some (.int .i64 x)):Calls Tryz.prog 142 #[.int .i64 16,.slice (some ⟨bk,o,none⟩) 1 c] w (fD (.tuple #[.int .i64 (iT (x == 0)),.int .i64 0]) w):=by
 go_enter Tryz.func142,Tryz.ntmps142
 go_wp2_with fail
 refine (show Calls Tryz.prog 140 #[.int .i64 16] w (fun e w'=>e = .returned (.tuple #[.string ⟨#[66]⟩,.int .i64 2,.int .i64 0,.bool true])/\w=w') from eO 16).mono ?_
 rintro e w1 ⟨rfl,rfl⟩
 go_wp2_with fail
 refine (bitC (x == 0)).mono ?_
 rintro e w2 ⟨rfl,hb⟩
 go_wp2
 go_ret2
 exact ⟨rfl,hb⟩
set_option maxRecDepth 100000 in
theorem aBM {w:World} {bk o c:Nat} {x y:Int} (hl:bk < w.heap.size) (hx:w.cell? ⟨bk,o,none⟩=some (.int .i64 x)) (hy:w.cell? ⟨bk,o+1,none⟩=some (.int .i64 y)) (hq:(x == 0)=false):Calls Tryz.prog 142 #[.int .i64 17,.slice (some ⟨bk,o,none⟩) 3 c] w (fD (.tuple #[.int .i64 y,.int .i64 0]) w):=by
 go_enter Tryz.func142,Tryz.ntmps142
 go_wp2_with fail
 refine (show Calls Tryz.prog 140 #[.int .i64 17] w (fun e w'=>e = .returned (.tuple #[.string ⟨#[66,73,73]⟩,.int .i64 1,.int .i64 0,.bool true])/\w=w') from eO 17).mono ?_
 rintro e w1 ⟨rfl,rfl⟩
 go_wp2
 go_ret2
 exact ⟨rfl,Below.refl _ _⟩
set_option maxRecDepth 100000 in
theorem aBN {w:World} {bk o c:Nat} {x y:Int} (hl:bk < w.heap.size) (hx:w.cell? ⟨bk,o,none⟩=some (.int .i64 x)) (hy:w.cell? ⟨bk,o+2,none⟩=some (.int .i64 y)) (hq:(x == 0)=true):Calls Tryz.prog 142 #[.int .i64 17,.slice (some ⟨bk,o,none⟩) 3 c] w (fD (.tuple #[.int .i64 y,.int .i64 0]) w):=by
 go_enter Tryz.func142,Tryz.ntmps142
 go_wp2_with fail
 refine (show Calls Tryz.prog 140 #[.int .i64 17] w (fun e w'=>e = .returned (.tuple #[.string ⟨#[66,73,73]⟩,.int .i64 1,.int .i64 0,.bool true])/\w=w') from eO 17).mono ?_
 rintro e w1 ⟨rfl,rfl⟩
 go_wp2
 go_ret2
 exact ⟨rfl,Below.refl _ _⟩
theorem aDX {w:World} {op:Int} {v:Value} {xs:List Int} (hv:Ints w v xs):Calls Tryz.prog 142 #[.int .i64 op,v] w (aB0 op xs w):=by
 obtain ⟨a0,c0,rfl⟩:=hv.form
 by_cases hbad:op < 3 \/ 17 < op \/ xs.length ≠ iC op
 ·have h1:=lR hbad
  unfold aB0
  rw [h1.1,h1.2]
  by_cases h:op < 1 \/ 25 < op
  ·exact aHX h
  obtain rfl | rfl | rfl | rfl | rfl | rfl | rfl | rfl | rfl | rfl | rfl | rfl | rfl | rfl | rfl | rfl | rfl | rfl | rfl | rfl | rfl | rfl | rfl | rfl | rfl:op=1 \/ op=2 \/ op=3 \/ op=4 \/ op=5 \/ op=6 \/ op=7 \/ op=8 \/ op=9 \/ op=10 \/ op=11 \/ op=12 \/ op=13 \/ op=14 \/ op=15 \/ op=16 \/ op=17 \/ op=18 \/ op=19 \/ op=20 \/ op=21 \/ op=22 \/ op=23 \/ op=24 \/ op=25:=by omega
  ·exact aFV
  ·exact aFW
  ·exact aFX (by simpa [iC] using hbad)
  ·exact aFY (by simpa [iC] using hbad)
  ·exact aFZ (by simpa [iC] using hbad)
  ·exact aF0 (by simpa [iC] using hbad)
  ·exact aF1 (by simpa [iC] using hbad)
  ·exact aF2 (by simpa [iC] using hbad)
  ·exact aF3 (by simpa [iC] using hbad)
  ·exact aDO (by simpa [iC] using hbad)
  ·exact aDP (by simpa [iC] using hbad)
  ·exact aDQ (by simpa [iC] using hbad)
  ·exact aDR (by simpa [iC] using hbad)
  ·exact aDS (by simpa [iC] using hbad)
  ·exact aDT (by simpa [iC] using hbad)
  ·exact aDU (by simpa [iC] using hbad)
  ·exact aDV (by simpa [iC] using hbad)
  ·exact aDG
  ·exact aDH
  ·exact aDI
  ·exact aDJ
  ·exact aDK
  ·exact aDL
  ·exact aDM
  exact aDN
 have hop:3 <= op/\op <= 17:=by omega
 have hlen:xs.length=iC op:=Classical.byContradiction fun h=>hbad (.inr (.inr h))
 have hw1:1 <= iC op:=by unfold iC;split;omega;split <;> omega
 obtain ⟨b,o,c,he,hb,hc⟩:=fK hv (by omega)
 cases he
 have hc0:=hc 0 (by omega)
 rw [bW] at hc0
 unfold aB0 lK nB
 rw [if_neg hbad,if_neg hbad]
 by_cases h16:op=16
 ·subst h16
  rw [if_pos rfl,if_pos rfl]
  have hn:xs.length=1:=hlen
  rw [hn]
  exact aDW hb hc0
 rw [if_neg h16,if_neg h16]
 by_cases h17:op=17
 ·subst h17
  rw [if_pos rfl,if_pos rfl]
  have hn:xs.length=3:=hlen
  have hc1:=hc 1 (by omega)
  have hc2:=hc 2 (by omega)
  rw [hn]
  by_cases hx:xs.getD 0 0=0
  ·rw [if_neg (by simpa using hx)]
   exact aBN hb hc0 hc2 (by rw [hx];rfl)
  rw [if_pos hx]
  exact aBM hb hc0 hc1 (by simpa using hx)
 rw [if_neg h17,if_neg h17]
 have hn:xs.length=2:=by rw [hlen];unfold iC;rw [if_neg h16,if_neg h17]
 have hc1:=hc 1 (by omega)
 rw [hn]
 by_cases hz:(op=11 \/ op=12)/\xs.getD 1 0=0
 ·rw [if_pos hz,if_pos hz]
  rw [hz.2] at hc1
  rcases hz.1 with rfl | rfl
  ·exact aCK hb hc1
  exact aCL hb hc1
 rw [if_neg hz,if_neg hz]
 obtain rfl | rfl | rfl | rfl | rfl | rfl | rfl | rfl | rfl | rfl | rfl | rfl | rfl:op=3 \/ op=4 \/ op=5 \/ op=6 \/ op=7 \/ op=8 \/ op=9 \/ op=10 \/ op=11 \/ op=12 \/ op=13 \/ op=14 \/ op=15:=by omega
 ·exact aG2 hb hc0 hc1 trivial
 ·exact aG3 hb hc0 hc1 trivial
 ·exact aG4 hb hc0 hc1 trivial
 ·exact aG5 hb hc0 hc1 trivial
 ·exact aG6 hb hc0 hc1 trivial
 ·exact aG7 hb hc0 hc1 trivial
 ·exact aG8 hb hc0 hc1 trivial
 ·exact aEQ hb hc0 hc1 trivial
 ·exact aEU hb hc0 hc1 (fun h=>hz ⟨by omega,h⟩)
 ·exact aEV hb hc0 hc1 (fun h=>hz ⟨by omega,h⟩)
 ·exact aER hb hc0 hc1
 ·exact aES hb hc0 hc1
 exact aET hb hc0 hc1
end Go.Proofs.YtcmflfkpeodicaaGreat
