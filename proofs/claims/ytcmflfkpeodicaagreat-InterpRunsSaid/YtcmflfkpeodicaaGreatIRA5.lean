/- Part 5. -/
import Derived.Test.YtcmflfkpeodicaaGreatIRA4
namespace Go.Proofs.YtcmflfkpeodicaaGreat
set_option maxHeartbeats 1600000
set_option linter.all false
open Go.RowKit
theorem aCT {w:World} {e:TypeId} {x:Int} (hx:In64 x):Ints (w.alloc (.cells #[.int .i64 x] e)) (.slice (some ⟨w.heap.size,0,none⟩) 1 1) [x]:=by
 refine ⟨Row.of_box (n:=1) (size:=1) (Box.new w #[.int .i64 x] e) rfl (by omega),fun y hy => ?_⟩
 simp at hy;subst hy;exact hx
theorem uF {w w' : World} {o:Obj} (h:Below (w.alloc o).heap.size (w.alloc o) w'):Below w.heap.size w w':=((Below.refl _ _).alloc (aF _) o).trans (h.mono (by simp))
theorem gY {w:World} (t:Int) (n:Nat) (ht:In64 t) (hn:n < 4294967296):Calls Tryz.prog 217 #[.int .i64 t,.int .i64 n] w fun e w' => ∃ u,e = .returned u/\New 3 w w' u (List.replicate n t)/\Below w.heap.size w w':=by
 have HT:=h! ht
 have HN:=h! hn
 clear ht hn
 go_enter Tryz.func217,Tryz.ntmps217
 go_wp2_with fail
 refine (pA (aCT HT.out) HN.out).mono ?_
 rintro e w1 ⟨u,rfl,hu,hb⟩
 have HU:=h! hu
 have HB:=h! (uF hb)
 clear hu hb
 go_wp2
 go_ret
 exact ⟨u,rfl,HU.out.from (by simp),HB.out⟩
structure Shp where
 result:Int
 args:List Int
 n:Int
 deriving DecidableEq
def shp (op:Int):Option Shp :=
 if op=1 then some ⟨1,[],1⟩ else if op=2 then some ⟨2,[],2⟩
 else if op=13 \/ op=14 \/ op=15 then some ⟨2,[1,1],0⟩
 else if op=16 then some ⟨2,[2],0⟩ else if op=17 then some ⟨1,[2,1,1],0⟩
 else if op=18 then some ⟨1,[],3⟩ else if op=19 \/ op=21 then some ⟨1,[1],3⟩
 else if op=20 \/ op=22 then some ⟨0,[1,1],3⟩ else if op=23 then some ⟨0,[1],0⟩
 else if op=24 then some ⟨1,[],4⟩ else if op=25 then some ⟨0,[1],4⟩
 else if 3 <= op/\op <= 12 then some ⟨1,[1,1],0⟩ else none
def shp0 (op:Int):Shp:=(shp op).getD ⟨0,[],0⟩
def ShpR (op:Int) (w:World) (e:Ending) (w' : World):Prop :=
 ∃ u,e = .returned (.tuple #[.agg #[.int .i64 (shp0 op).result,u,.int .i64 (shp0 op).n],.bool (shp op).isSome])/\New 3 w w' u (shp0 op).args/\Below w.heap.size w w'
theorem aHG {w:World}:Calls Tryz.prog 188 #[.int .i64 1] w (ShpR 1 w):=by
 go_enter Tryz.func188,Tryz.ntmps188
 go_upto_region 1 with (fail)
 have hA_:=(Below.refl w.heap.size w).alloc (aF _) (.cells #[.int .i64 0,.slice none 0 0,.int .i64 0] 249)
 have HW:=h! hA_
 clear hA_
 have B2:=h! (Box.new w #[.int .i64 0,.slice none 0 0,.int .i64 0] 249)
 generalize w.alloc (.cells #[.int .i64 0,.slice none 0 0,.int .i64 0] 249)=wv at *
 obtain ⟨lB2,cB2,fB2⟩:=B2.out
 go_wp2
 exact bodyPost_ret (v:=.tuple #[.agg #[.int .i64 1,.slice none 0 0,.int .i64 1],.bool true]) (by simp [results,Tryz.results188,go_sem, *]) rfl ⟨_,rfl,New.nil,((HW.out.setCell (by simp) _).setCell (by simp) _).setCell (by simp) _⟩
theorem aHH {w:World}:Calls Tryz.prog 188 #[.int .i64 2] w (ShpR 2 w):=by
 go_enter Tryz.func188,Tryz.ntmps188
 go_upto_region 1 with (fail)
 have hA_:=(Below.refl w.heap.size w).alloc (aF _) (.cells #[.int .i64 0,.slice none 0 0,.int .i64 0] 249)
 have HW:=h! hA_
 clear hA_
 have B2:=h! (Box.new w #[.int .i64 0,.slice none 0 0,.int .i64 0] 249)
 generalize w.alloc (.cells #[.int .i64 0,.slice none 0 0,.int .i64 0] 249)=wv at *
 obtain ⟨lB2,cB2,fB2⟩:=B2.out
 go_wp2
 exact bodyPost_ret (v:=.tuple #[.agg #[.int .i64 2,.slice none 0 0,.int .i64 2],.bool true]) (by simp [results,Tryz.results188,go_sem, *]) rfl ⟨_,rfl,New.nil,((HW.out.setCell (by simp) _).setCell (by simp) _).setCell (by simp) _⟩
theorem aE7 {w:World}:Calls Tryz.prog 188 #[.int .i64 18] w (ShpR 18 w):=by
 go_enter Tryz.func188,Tryz.ntmps188
 go_upto_region 1 with (fail)
 have hA_:=(Below.refl w.heap.size w).alloc (aF _) (.cells #[.int .i64 0,.slice none 0 0,.int .i64 0] 249)
 have HW:=h! hA_
 clear hA_
 have B2:=h! (Box.new w #[.int .i64 0,.slice none 0 0,.int .i64 0] 249)
 generalize w.alloc (.cells #[.int .i64 0,.slice none 0 0,.int .i64 0] 249)=wv at *
 obtain ⟨lB2,cB2,fB2⟩:=B2.out
 go_wp2
 exact bodyPost_ret (v:=.tuple #[.agg #[.int .i64 1,.slice none 0 0,.int .i64 3],.bool true]) (by simp [results,Tryz.results188,go_sem, *]) rfl ⟨_,rfl,New.nil,((HW.out.setCell (by simp) _).setCell (by simp) _).setCell (by simp) _⟩
theorem aE8 {w:World}:Calls Tryz.prog 188 #[.int .i64 24] w (ShpR 24 w):=by
 go_enter Tryz.func188,Tryz.ntmps188
 go_upto_region 1 with (fail)
 have hA_:=(Below.refl w.heap.size w).alloc (aF _) (.cells #[.int .i64 0,.slice none 0 0,.int .i64 0] 249)
 have HW:=h! hA_
 clear hA_
 have B2:=h! (Box.new w #[.int .i64 0,.slice none 0 0,.int .i64 0] 249)
 generalize w.alloc (.cells #[.int .i64 0,.slice none 0 0,.int .i64 0] 249)=wv at *
 obtain ⟨lB2,cB2,fB2⟩:=B2.out
 go_wp2
 exact bodyPost_ret (v:=.tuple #[.agg #[.int .i64 1,.slice none 0 0,.int .i64 4],.bool true]) (by simp [results,Tryz.results188,go_sem, *]) rfl ⟨_,rfl,New.nil,((HW.out.setCell (by simp) _).setCell (by simp) _).setCell (by simp) _⟩
theorem aE9 {w:World}:Calls Tryz.prog 188 #[.int .i64 13] w (ShpR 13 w):=by
 go_enter Tryz.func188,Tryz.ntmps188
 go_upto_region 1 with (fail)
 have hA_:=(Below.refl w.heap.size w).alloc (aF _) (.cells #[.int .i64 0,.slice none 0 0,.int .i64 0] 249)
 have HW:=h! hA_
 clear hA_
 have B2:=h! (Box.new w #[.int .i64 0,.slice none 0 0,.int .i64 0] 249)
 generalize w.alloc (.cells #[.int .i64 0,.slice none 0 0,.int .i64 0] 249)=wv at *
 obtain ⟨lB2,cB2,fB2⟩:=B2.out
 go_wp2_with fail
 refine (gY 1 2 ⟨by decide,by decide⟩ (by decide)).mono ?_
 rintro e w1 ⟨u,rfl,hu,hb1⟩
 obtain ⟨ua,uc,rfl⟩:=hu.ints.form
 simp only [aV] at hu ⊢
 have HU:=h! hu
 have HL:=h! lB2
 clear hu
 clear lB2 cB2 fB2
 replace B2:=h! (B2.out.later hb1)
 replace HW:=h! (HW.out.trans (hb1.mono HW.out.size))
 clear hb1
 obtain ⟨lB2,cB2,fB2⟩:=B2.out
 go_wp2
 exact bodyPost_ret (v:=.tuple #[.agg #[.int .i64 2,.slice ua 2 uc,.int .i64 0],.bool true]) (by simp [results,Tryz.results188,go_sem, *]) rfl
  ⟨_,rfl,(((HU.out.other _ (.inl HL.out)).other _ (.inl HL.out)).other _ (.inl HL.out)).from (bG HL.out),((HW.out.setCell (by simp) _).setCell (by simp) _).setCell (by simp) _⟩
theorem aFA {w:World}:Calls Tryz.prog 188 #[.int .i64 14] w (ShpR 14 w):=by
 go_enter Tryz.func188,Tryz.ntmps188
 go_upto_region 1 with (fail)
 have hA_:=(Below.refl w.heap.size w).alloc (aF _) (.cells #[.int .i64 0,.slice none 0 0,.int .i64 0] 249)
 have HW:=h! hA_
 clear hA_
 have B2:=h! (Box.new w #[.int .i64 0,.slice none 0 0,.int .i64 0] 249)
 generalize w.alloc (.cells #[.int .i64 0,.slice none 0 0,.int .i64 0] 249)=wv at *
 obtain ⟨lB2,cB2,fB2⟩:=B2.out
 go_wp2_with fail
 refine (gY 1 2 ⟨by decide,by decide⟩ (by decide)).mono ?_
 rintro e w1 ⟨u,rfl,hu,hb1⟩
 obtain ⟨ua,uc,rfl⟩:=hu.ints.form
 simp only [aV] at hu ⊢
 have HU:=h! hu
 have HL:=h! lB2
 clear hu
 clear lB2 cB2 fB2
 replace B2:=h! (B2.out.later hb1)
 replace HW:=h! (HW.out.trans (hb1.mono HW.out.size))
 clear hb1
 obtain ⟨lB2,cB2,fB2⟩:=B2.out
 go_wp2
 exact bodyPost_ret (v:=.tuple #[.agg #[.int .i64 2,.slice ua 2 uc,.int .i64 0],.bool true]) (by simp [results,Tryz.results188,go_sem, *]) rfl
  ⟨_,rfl,(((HU.out.other _ (.inl HL.out)).other _ (.inl HL.out)).other _ (.inl HL.out)).from (bG HL.out),((HW.out.setCell (by simp) _).setCell (by simp) _).setCell (by simp) _⟩
theorem aFB {w:World}:Calls Tryz.prog 188 #[.int .i64 15] w (ShpR 15 w):=by
 go_enter Tryz.func188,Tryz.ntmps188
 go_upto_region 1 with (fail)
 have hA_:=(Below.refl w.heap.size w).alloc (aF _) (.cells #[.int .i64 0,.slice none 0 0,.int .i64 0] 249)
 have HW:=h! hA_
 clear hA_
 have B2:=h! (Box.new w #[.int .i64 0,.slice none 0 0,.int .i64 0] 249)
 generalize w.alloc (.cells #[.int .i64 0,.slice none 0 0,.int .i64 0] 249)=wv at *
 obtain ⟨lB2,cB2,fB2⟩:=B2.out
 go_wp2_with fail
 refine (gY 1 2 ⟨by decide,by decide⟩ (by decide)).mono ?_
 rintro e w1 ⟨u,rfl,hu,hb1⟩
 obtain ⟨ua,uc,rfl⟩:=hu.ints.form
 simp only [aV] at hu ⊢
 have HU:=h! hu
 have HL:=h! lB2
 clear hu
 clear lB2 cB2 fB2
 replace B2:=h! (B2.out.later hb1)
 replace HW:=h! (HW.out.trans (hb1.mono HW.out.size))
 clear hb1
 obtain ⟨lB2,cB2,fB2⟩:=B2.out
 go_wp2
 exact bodyPost_ret (v:=.tuple #[.agg #[.int .i64 2,.slice ua 2 uc,.int .i64 0],.bool true]) (by simp [results,Tryz.results188,go_sem, *]) rfl
  ⟨_,rfl,(((HU.out.other _ (.inl HL.out)).other _ (.inl HL.out)).other _ (.inl HL.out)).from (bG HL.out),((HW.out.setCell (by simp) _).setCell (by simp) _).setCell (by simp) _⟩
theorem aFC {w:World}:Calls Tryz.prog 188 #[.int .i64 16] w (ShpR 16 w):=by
 go_enter Tryz.func188,Tryz.ntmps188
 go_upto_region 1 with (fail)
 have hA_:=(Below.refl w.heap.size w).alloc (aF _) (.cells #[.int .i64 0,.slice none 0 0,.int .i64 0] 249)
 have HW:=h! hA_
 clear hA_
 have B2:=h! (Box.new w #[.int .i64 0,.slice none 0 0,.int .i64 0] 249)
 generalize w.alloc (.cells #[.int .i64 0,.slice none 0 0,.int .i64 0] 249)=wv at *
 obtain ⟨lB2,cB2,fB2⟩:=B2.out
 go_wp2_with fail
 refine (gY 2 1 ⟨by decide,by decide⟩ (by decide)).mono ?_
 rintro e w1 ⟨u,rfl,hu,hb1⟩
 obtain ⟨ua,uc,rfl⟩:=hu.ints.form
 simp only [aV] at hu ⊢
 have HU:=h! hu
 have HL:=h! lB2
 clear hu
 clear lB2 cB2 fB2
 replace B2:=h! (B2.out.later hb1)
 replace HW:=h! (HW.out.trans (hb1.mono HW.out.size))
 clear hb1
 obtain ⟨lB2,cB2,fB2⟩:=B2.out
 go_wp2
 exact bodyPost_ret (v:=.tuple #[.agg #[.int .i64 2,.slice ua 1 uc,.int .i64 0],.bool true]) (by simp [results,Tryz.results188,go_sem, *]) rfl
  ⟨_,rfl,(((HU.out.other _ (.inl HL.out)).other _ (.inl HL.out)).other _ (.inl HL.out)).from (bG HL.out),((HW.out.setCell (by simp) _).setCell (by simp) _).setCell (by simp) _⟩
theorem aFD {w:World}:Calls Tryz.prog 188 #[.int .i64 19] w (ShpR 19 w):=by
 go_enter Tryz.func188,Tryz.ntmps188
 go_upto_region 1 with (fail)
 have hA_:=(Below.refl w.heap.size w).alloc (aF _) (.cells #[.int .i64 0,.slice none 0 0,.int .i64 0] 249)
 have HW:=h! hA_
 clear hA_
 have B2:=h! (Box.new w #[.int .i64 0,.slice none 0 0,.int .i64 0] 249)
 generalize w.alloc (.cells #[.int .i64 0,.slice none 0 0,.int .i64 0] 249)=wv at *
 obtain ⟨lB2,cB2,fB2⟩:=B2.out
 go_wp2_with fail
 refine (gY 1 1 ⟨by decide,by decide⟩ (by decide)).mono ?_
 rintro e w1 ⟨u,rfl,hu,hb1⟩
 obtain ⟨ua,uc,rfl⟩:=hu.ints.form
 simp only [aV] at hu ⊢
 have HU:=h! hu
 have HL:=h! lB2
 clear hu
 clear lB2 cB2 fB2
 replace B2:=h! (B2.out.later hb1)
 replace HW:=h! (HW.out.trans (hb1.mono HW.out.size))
 clear hb1
 obtain ⟨lB2,cB2,fB2⟩:=B2.out
 go_wp2
 exact bodyPost_ret (v:=.tuple #[.agg #[.int .i64 1,.slice ua 1 uc,.int .i64 3],.bool true]) (by simp [results,Tryz.results188,go_sem, *]) rfl
  ⟨_,rfl,(((HU.out.other _ (.inl HL.out)).other _ (.inl HL.out)).other _ (.inl HL.out)).from (bG HL.out),((HW.out.setCell (by simp) _).setCell (by simp) _).setCell (by simp) _⟩
theorem aFE {w:World}:Calls Tryz.prog 188 #[.int .i64 21] w (ShpR 21 w):=by
 go_enter Tryz.func188,Tryz.ntmps188
 go_upto_region 1 with (fail)
 have hA_:=(Below.refl w.heap.size w).alloc (aF _) (.cells #[.int .i64 0,.slice none 0 0,.int .i64 0] 249)
 have HW:=h! hA_
 clear hA_
 have B2:=h! (Box.new w #[.int .i64 0,.slice none 0 0,.int .i64 0] 249)
 generalize w.alloc (.cells #[.int .i64 0,.slice none 0 0,.int .i64 0] 249)=wv at *
 obtain ⟨lB2,cB2,fB2⟩:=B2.out
 go_wp2_with fail
 refine (gY 1 1 ⟨by decide,by decide⟩ (by decide)).mono ?_
 rintro e w1 ⟨u,rfl,hu,hb1⟩
 obtain ⟨ua,uc,rfl⟩:=hu.ints.form
 simp only [aV] at hu ⊢
 have HU:=h! hu
 have HL:=h! lB2
 clear hu
 clear lB2 cB2 fB2
 replace B2:=h! (B2.out.later hb1)
 replace HW:=h! (HW.out.trans (hb1.mono HW.out.size))
 clear hb1
 obtain ⟨lB2,cB2,fB2⟩:=B2.out
 go_wp2
 exact bodyPost_ret (v:=.tuple #[.agg #[.int .i64 1,.slice ua 1 uc,.int .i64 3],.bool true]) (by simp [results,Tryz.results188,go_sem, *]) rfl
  ⟨_,rfl,(((HU.out.other _ (.inl HL.out)).other _ (.inl HL.out)).other _ (.inl HL.out)).from (bG HL.out),((HW.out.setCell (by simp) _).setCell (by simp) _).setCell (by simp) _⟩
theorem aFF {w:World}:Calls Tryz.prog 188 #[.int .i64 20] w (ShpR 20 w):=by
 go_enter Tryz.func188,Tryz.ntmps188
 go_upto_region 1 with (fail)
 have hA_:=(Below.refl w.heap.size w).alloc (aF _) (.cells #[.int .i64 0,.slice none 0 0,.int .i64 0] 249)
 have HW:=h! hA_
 clear hA_
 have B2:=h! (Box.new w #[.int .i64 0,.slice none 0 0,.int .i64 0] 249)
 generalize w.alloc (.cells #[.int .i64 0,.slice none 0 0,.int .i64 0] 249)=wv at *
 obtain ⟨lB2,cB2,fB2⟩:=B2.out
 go_wp2_with fail
 refine (gY 1 2 ⟨by decide,by decide⟩ (by decide)).mono ?_
 rintro e w1 ⟨u,rfl,hu,hb1⟩
 obtain ⟨ua,uc,rfl⟩:=hu.ints.form
 simp only [aV] at hu ⊢
 have HU:=h! hu
 have HL:=h! lB2
 clear hu
 clear lB2 cB2 fB2
 replace B2:=h! (B2.out.later hb1)
 replace HW:=h! (HW.out.trans (hb1.mono HW.out.size))
 clear hb1
 obtain ⟨lB2,cB2,fB2⟩:=B2.out
 go_wp2
 exact bodyPost_ret (v:=.tuple #[.agg #[.int .i64 0,.slice ua 2 uc,.int .i64 3],.bool true]) (by simp [results,Tryz.results188,go_sem, *]) rfl
  ⟨_,rfl,(((HU.out.other _ (.inl HL.out)).other _ (.inl HL.out)).other _ (.inl HL.out)).from (bG HL.out),((HW.out.setCell (by simp) _).setCell (by simp) _).setCell (by simp) _⟩
theorem aFG {w:World}:Calls Tryz.prog 188 #[.int .i64 22] w (ShpR 22 w):=by
 go_enter Tryz.func188,Tryz.ntmps188
 go_upto_region 1 with (fail)
 have hA_:=(Below.refl w.heap.size w).alloc (aF _) (.cells #[.int .i64 0,.slice none 0 0,.int .i64 0] 249)
 have HW:=h! hA_
 clear hA_
 have B2:=h! (Box.new w #[.int .i64 0,.slice none 0 0,.int .i64 0] 249)
 generalize w.alloc (.cells #[.int .i64 0,.slice none 0 0,.int .i64 0] 249)=wv at *
 obtain ⟨lB2,cB2,fB2⟩:=B2.out
 go_wp2_with fail
 refine (gY 1 2 ⟨by decide,by decide⟩ (by decide)).mono ?_
 rintro e w1 ⟨u,rfl,hu,hb1⟩
 obtain ⟨ua,uc,rfl⟩:=hu.ints.form
 simp only [aV] at hu ⊢
 have HU:=h! hu
 have HL:=h! lB2
 clear hu
 clear lB2 cB2 fB2
 replace B2:=h! (B2.out.later hb1)
 replace HW:=h! (HW.out.trans (hb1.mono HW.out.size))
 clear hb1
 obtain ⟨lB2,cB2,fB2⟩:=B2.out
 go_wp2
 exact bodyPost_ret (v:=.tuple #[.agg #[.int .i64 0,.slice ua 2 uc,.int .i64 3],.bool true]) (by simp [results,Tryz.results188,go_sem, *]) rfl
  ⟨_,rfl,(((HU.out.other _ (.inl HL.out)).other _ (.inl HL.out)).other _ (.inl HL.out)).from (bG HL.out),((HW.out.setCell (by simp) _).setCell (by simp) _).setCell (by simp) _⟩
theorem aFH {w:World}:Calls Tryz.prog 188 #[.int .i64 23] w (ShpR 23 w):=by
 go_enter Tryz.func188,Tryz.ntmps188
 go_upto_region 1 with (fail)
 have hA_:=(Below.refl w.heap.size w).alloc (aF _) (.cells #[.int .i64 0,.slice none 0 0,.int .i64 0] 249)
 have HW:=h! hA_
 clear hA_
 have B2:=h! (Box.new w #[.int .i64 0,.slice none 0 0,.int .i64 0] 249)
 generalize w.alloc (.cells #[.int .i64 0,.slice none 0 0,.int .i64 0] 249)=wv at *
 obtain ⟨lB2,cB2,fB2⟩:=B2.out
 go_wp2_with fail
 refine (gY 1 1 ⟨by decide,by decide⟩ (by decide)).mono ?_
 rintro e w1 ⟨u,rfl,hu,hb1⟩
 obtain ⟨ua,uc,rfl⟩:=hu.ints.form
 simp only [aV] at hu ⊢
 have HU:=h! hu
 have HL:=h! lB2
 clear hu
 clear lB2 cB2 fB2
 replace B2:=h! (B2.out.later hb1)
 replace HW:=h! (HW.out.trans (hb1.mono HW.out.size))
 clear hb1
 obtain ⟨lB2,cB2,fB2⟩:=B2.out
 go_wp2
 exact bodyPost_ret (v:=.tuple #[.agg #[.int .i64 0,.slice ua 1 uc,.int .i64 0],.bool true]) (by simp [results,Tryz.results188,go_sem, *]) rfl
  ⟨_,rfl,(((HU.out.other _ (.inl HL.out)).other _ (.inl HL.out)).other _ (.inl HL.out)).from (bG HL.out),((HW.out.setCell (by simp) _).setCell (by simp) _).setCell (by simp) _⟩
theorem aFI {w:World}:Calls Tryz.prog 188 #[.int .i64 25] w (ShpR 25 w):=by
 go_enter Tryz.func188,Tryz.ntmps188
 go_upto_region 1 with (fail)
 have hA_:=(Below.refl w.heap.size w).alloc (aF _) (.cells #[.int .i64 0,.slice none 0 0,.int .i64 0] 249)
 have HW:=h! hA_
 clear hA_
 have B2:=h! (Box.new w #[.int .i64 0,.slice none 0 0,.int .i64 0] 249)
 generalize w.alloc (.cells #[.int .i64 0,.slice none 0 0,.int .i64 0] 249)=wv at *
 obtain ⟨lB2,cB2,fB2⟩:=B2.out
 go_wp2_with fail
 refine (gY 1 1 ⟨by decide,by decide⟩ (by decide)).mono ?_
 rintro e w1 ⟨u,rfl,hu,hb1⟩
 obtain ⟨ua,uc,rfl⟩:=hu.ints.form
 simp only [aV] at hu ⊢
 have HU:=h! hu
 have HL:=h! lB2
 clear hu
 clear lB2 cB2 fB2
 replace B2:=h! (B2.out.later hb1)
 replace HW:=h! (HW.out.trans (hb1.mono HW.out.size))
 clear hb1
 obtain ⟨lB2,cB2,fB2⟩:=B2.out
 go_wp2
 exact bodyPost_ret (v:=.tuple #[.agg #[.int .i64 0,.slice ua 1 uc,.int .i64 4],.bool true]) (by simp [results,Tryz.results188,go_sem, *]) rfl
  ⟨_,rfl,(((HU.out.other _ (.inl HL.out)).other _ (.inl HL.out)).other _ (.inl HL.out)).from (bG HL.out),((HW.out.setCell (by simp) _).setCell (by simp) _).setCell (by simp) _⟩
theorem aHI {w:World}:Calls Tryz.prog 188 #[.int .i64 3] w (ShpR 3 w):=by
 go_enter Tryz.func188,Tryz.ntmps188
 go_upto_region 1 with (fail)
 have hA_:=(Below.refl w.heap.size w).alloc (aF _) (.cells #[.int .i64 0,.slice none 0 0,.int .i64 0] 249)
 have HW:=h! hA_
 clear hA_
 have B2:=h! (Box.new w #[.int .i64 0,.slice none 0 0,.int .i64 0] 249)
 generalize w.alloc (.cells #[.int .i64 0,.slice none 0 0,.int .i64 0] 249)=wv at *
 obtain ⟨lB2,cB2,fB2⟩:=B2.out
 go_wp2_with fail
 refine (gY 1 2 ⟨by decide,by decide⟩ (by decide)).mono ?_
 rintro e w1 ⟨u,rfl,hu,hb1⟩
 obtain ⟨ua,uc,rfl⟩:=hu.ints.form
 simp only [aV] at hu ⊢
 have HU:=h! hu
 have HL:=h! lB2
 clear hu
 clear lB2 cB2 fB2
 replace B2:=h! (B2.out.later hb1)
 replace HW:=h! (HW.out.trans (hb1.mono HW.out.size))
 clear hb1
 obtain ⟨lB2,cB2,fB2⟩:=B2.out
 go_wp2
 exact bodyPost_ret (v:=.tuple #[.agg #[.int .i64 1,.slice ua 2 uc,.int .i64 0],.bool true]) (by simp [results,Tryz.results188,go_sem, *]) rfl
  ⟨_,rfl,(((HU.out.other _ (.inl HL.out)).other _ (.inl HL.out)).other _ (.inl HL.out)).from (bG HL.out),((HW.out.setCell (by simp) _).setCell (by simp) _).setCell (by simp) _⟩
theorem aHJ {w:World}:Calls Tryz.prog 188 #[.int .i64 4] w (ShpR 4 w):=by
 go_enter Tryz.func188,Tryz.ntmps188
 go_upto_region 1 with (fail)
 have hA_:=(Below.refl w.heap.size w).alloc (aF _) (.cells #[.int .i64 0,.slice none 0 0,.int .i64 0] 249)
 have HW:=h! hA_
 clear hA_
 have B2:=h! (Box.new w #[.int .i64 0,.slice none 0 0,.int .i64 0] 249)
 generalize w.alloc (.cells #[.int .i64 0,.slice none 0 0,.int .i64 0] 249)=wv at *
 obtain ⟨lB2,cB2,fB2⟩:=B2.out
 go_wp2_with fail
 refine (gY 1 2 ⟨by decide,by decide⟩ (by decide)).mono ?_
 rintro e w1 ⟨u,rfl,hu,hb1⟩
 obtain ⟨ua,uc,rfl⟩:=hu.ints.form
 simp only [aV] at hu ⊢
 have HU:=h! hu
 have HL:=h! lB2
 clear hu
 clear lB2 cB2 fB2
 replace B2:=h! (B2.out.later hb1)
 replace HW:=h! (HW.out.trans (hb1.mono HW.out.size))
 clear hb1
 obtain ⟨lB2,cB2,fB2⟩:=B2.out
 go_wp2
 exact bodyPost_ret (v:=.tuple #[.agg #[.int .i64 1,.slice ua 2 uc,.int .i64 0],.bool true]) (by simp [results,Tryz.results188,go_sem, *]) rfl
  ⟨_,rfl,(((HU.out.other _ (.inl HL.out)).other _ (.inl HL.out)).other _ (.inl HL.out)).from (bG HL.out),((HW.out.setCell (by simp) _).setCell (by simp) _).setCell (by simp) _⟩
theorem aHK {w:World}:Calls Tryz.prog 188 #[.int .i64 5] w (ShpR 5 w):=by
 go_enter Tryz.func188,Tryz.ntmps188
 go_upto_region 1 with (fail)
 have hA_:=(Below.refl w.heap.size w).alloc (aF _) (.cells #[.int .i64 0,.slice none 0 0,.int .i64 0] 249)
 have HW:=h! hA_
 clear hA_
 have B2:=h! (Box.new w #[.int .i64 0,.slice none 0 0,.int .i64 0] 249)
 generalize w.alloc (.cells #[.int .i64 0,.slice none 0 0,.int .i64 0] 249)=wv at *
 obtain ⟨lB2,cB2,fB2⟩:=B2.out
 go_wp2_with fail
 refine (gY 1 2 ⟨by decide,by decide⟩ (by decide)).mono ?_
 rintro e w1 ⟨u,rfl,hu,hb1⟩
 obtain ⟨ua,uc,rfl⟩:=hu.ints.form
 simp only [aV] at hu ⊢
 have HU:=h! hu
 have HL:=h! lB2
 clear hu
 clear lB2 cB2 fB2
 replace B2:=h! (B2.out.later hb1)
 replace HW:=h! (HW.out.trans (hb1.mono HW.out.size))
 clear hb1
 obtain ⟨lB2,cB2,fB2⟩:=B2.out
 go_wp2
 exact bodyPost_ret (v:=.tuple #[.agg #[.int .i64 1,.slice ua 2 uc,.int .i64 0],.bool true]) (by simp [results,Tryz.results188,go_sem, *]) rfl
  ⟨_,rfl,(((HU.out.other _ (.inl HL.out)).other _ (.inl HL.out)).other _ (.inl HL.out)).from (bG HL.out),((HW.out.setCell (by simp) _).setCell (by simp) _).setCell (by simp) _⟩
theorem aHL {w:World}:Calls Tryz.prog 188 #[.int .i64 6] w (ShpR 6 w):=by
 go_enter Tryz.func188,Tryz.ntmps188
 go_upto_region 1 with (fail)
 have hA_:=(Below.refl w.heap.size w).alloc (aF _) (.cells #[.int .i64 0,.slice none 0 0,.int .i64 0] 249)
 have HW:=h! hA_
 clear hA_
 have B2:=h! (Box.new w #[.int .i64 0,.slice none 0 0,.int .i64 0] 249)
 generalize w.alloc (.cells #[.int .i64 0,.slice none 0 0,.int .i64 0] 249)=wv at *
 obtain ⟨lB2,cB2,fB2⟩:=B2.out
 go_wp2_with fail
 refine (gY 1 2 ⟨by decide,by decide⟩ (by decide)).mono ?_
 rintro e w1 ⟨u,rfl,hu,hb1⟩
 obtain ⟨ua,uc,rfl⟩:=hu.ints.form
 simp only [aV] at hu ⊢
 have HU:=h! hu
 have HL:=h! lB2
 clear hu
 clear lB2 cB2 fB2
 replace B2:=h! (B2.out.later hb1)
 replace HW:=h! (HW.out.trans (hb1.mono HW.out.size))
 clear hb1
 obtain ⟨lB2,cB2,fB2⟩:=B2.out
 go_wp2
 exact bodyPost_ret (v:=.tuple #[.agg #[.int .i64 1,.slice ua 2 uc,.int .i64 0],.bool true]) (by simp [results,Tryz.results188,go_sem, *]) rfl
  ⟨_,rfl,(((HU.out.other _ (.inl HL.out)).other _ (.inl HL.out)).other _ (.inl HL.out)).from (bG HL.out),((HW.out.setCell (by simp) _).setCell (by simp) _).setCell (by simp) _⟩
theorem aHM {w:World}:Calls Tryz.prog 188 #[.int .i64 7] w (ShpR 7 w):=by
 go_enter Tryz.func188,Tryz.ntmps188
 go_upto_region 1 with (fail)
 have hA_:=(Below.refl w.heap.size w).alloc (aF _) (.cells #[.int .i64 0,.slice none 0 0,.int .i64 0] 249)
 have HW:=h! hA_
 clear hA_
 have B2:=h! (Box.new w #[.int .i64 0,.slice none 0 0,.int .i64 0] 249)
 generalize w.alloc (.cells #[.int .i64 0,.slice none 0 0,.int .i64 0] 249)=wv at *
 obtain ⟨lB2,cB2,fB2⟩:=B2.out
 go_wp2_with fail
 refine (gY 1 2 ⟨by decide,by decide⟩ (by decide)).mono ?_
 rintro e w1 ⟨u,rfl,hu,hb1⟩
 obtain ⟨ua,uc,rfl⟩:=hu.ints.form
 simp only [aV] at hu ⊢
 have HU:=h! hu
 have HL:=h! lB2
 clear hu
 clear lB2 cB2 fB2
 replace B2:=h! (B2.out.later hb1)
 replace HW:=h! (HW.out.trans (hb1.mono HW.out.size))
 clear hb1
 obtain ⟨lB2,cB2,fB2⟩:=B2.out
 go_wp2
 exact bodyPost_ret (v:=.tuple #[.agg #[.int .i64 1,.slice ua 2 uc,.int .i64 0],.bool true]) (by simp [results,Tryz.results188,go_sem, *]) rfl
  ⟨_,rfl,(((HU.out.other _ (.inl HL.out)).other _ (.inl HL.out)).other _ (.inl HL.out)).from (bG HL.out),((HW.out.setCell (by simp) _).setCell (by simp) _).setCell (by simp) _⟩
theorem aHN {w:World}:Calls Tryz.prog 188 #[.int .i64 8] w (ShpR 8 w):=by
 go_enter Tryz.func188,Tryz.ntmps188
 go_upto_region 1 with (fail)
 have hA_:=(Below.refl w.heap.size w).alloc (aF _) (.cells #[.int .i64 0,.slice none 0 0,.int .i64 0] 249)
 have HW:=h! hA_
 clear hA_
 have B2:=h! (Box.new w #[.int .i64 0,.slice none 0 0,.int .i64 0] 249)
 generalize w.alloc (.cells #[.int .i64 0,.slice none 0 0,.int .i64 0] 249)=wv at *
 obtain ⟨lB2,cB2,fB2⟩:=B2.out
 go_wp2_with fail
 refine (gY 1 2 ⟨by decide,by decide⟩ (by decide)).mono ?_
 rintro e w1 ⟨u,rfl,hu,hb1⟩
 obtain ⟨ua,uc,rfl⟩:=hu.ints.form
 simp only [aV] at hu ⊢
 have HU:=h! hu
 have HL:=h! lB2
 clear hu
 clear lB2 cB2 fB2
 replace B2:=h! (B2.out.later hb1)
 replace HW:=h! (HW.out.trans (hb1.mono HW.out.size))
 clear hb1
 obtain ⟨lB2,cB2,fB2⟩:=B2.out
 go_wp2
 exact bodyPost_ret (v:=.tuple #[.agg #[.int .i64 1,.slice ua 2 uc,.int .i64 0],.bool true]) (by simp [results,Tryz.results188,go_sem, *]) rfl
  ⟨_,rfl,(((HU.out.other _ (.inl HL.out)).other _ (.inl HL.out)).other _ (.inl HL.out)).from (bG HL.out),((HW.out.setCell (by simp) _).setCell (by simp) _).setCell (by simp) _⟩
theorem aHO {w:World}:Calls Tryz.prog 188 #[.int .i64 9] w (ShpR 9 w):=by
 go_enter Tryz.func188,Tryz.ntmps188
 go_upto_region 1 with (fail)
 have hA_:=(Below.refl w.heap.size w).alloc (aF _) (.cells #[.int .i64 0,.slice none 0 0,.int .i64 0] 249)
 have HW:=h! hA_
 clear hA_
 have B2:=h! (Box.new w #[.int .i64 0,.slice none 0 0,.int .i64 0] 249)
 generalize w.alloc (.cells #[.int .i64 0,.slice none 0 0,.int .i64 0] 249)=wv at *
 obtain ⟨lB2,cB2,fB2⟩:=B2.out
 go_wp2_with fail
 refine (gY 1 2 ⟨by decide,by decide⟩ (by decide)).mono ?_
 rintro e w1 ⟨u,rfl,hu,hb1⟩
 obtain ⟨ua,uc,rfl⟩:=hu.ints.form
 simp only [aV] at hu ⊢
 have HU:=h! hu
 have HL:=h! lB2
 clear hu
 clear lB2 cB2 fB2
 replace B2:=h! (B2.out.later hb1)
 replace HW:=h! (HW.out.trans (hb1.mono HW.out.size))
 clear hb1
 obtain ⟨lB2,cB2,fB2⟩:=B2.out
 go_wp2
 exact bodyPost_ret (v:=.tuple #[.agg #[.int .i64 1,.slice ua 2 uc,.int .i64 0],.bool true]) (by simp [results,Tryz.results188,go_sem, *]) rfl
  ⟨_,rfl,(((HU.out.other _ (.inl HL.out)).other _ (.inl HL.out)).other _ (.inl HL.out)).from (bG HL.out),((HW.out.setCell (by simp) _).setCell (by simp) _).setCell (by simp) _⟩
theorem aFJ {w:World}:Calls Tryz.prog 188 #[.int .i64 10] w (ShpR 10 w):=by
 go_enter Tryz.func188,Tryz.ntmps188
 go_upto_region 1 with (fail)
 have hA_:=(Below.refl w.heap.size w).alloc (aF _) (.cells #[.int .i64 0,.slice none 0 0,.int .i64 0] 249)
 have HW:=h! hA_
 clear hA_
 have B2:=h! (Box.new w #[.int .i64 0,.slice none 0 0,.int .i64 0] 249)
 generalize w.alloc (.cells #[.int .i64 0,.slice none 0 0,.int .i64 0] 249)=wv at *
 obtain ⟨lB2,cB2,fB2⟩:=B2.out
 go_wp2_with fail
 refine (gY 1 2 ⟨by decide,by decide⟩ (by decide)).mono ?_
 rintro e w1 ⟨u,rfl,hu,hb1⟩
 obtain ⟨ua,uc,rfl⟩:=hu.ints.form
 simp only [aV] at hu ⊢
 have HU:=h! hu
 have HL:=h! lB2
 clear hu
 clear lB2 cB2 fB2
 replace B2:=h! (B2.out.later hb1)
 replace HW:=h! (HW.out.trans (hb1.mono HW.out.size))
 clear hb1
 obtain ⟨lB2,cB2,fB2⟩:=B2.out
 go_wp2
 exact bodyPost_ret (v:=.tuple #[.agg #[.int .i64 1,.slice ua 2 uc,.int .i64 0],.bool true]) (by simp [results,Tryz.results188,go_sem, *]) rfl
  ⟨_,rfl,(((HU.out.other _ (.inl HL.out)).other _ (.inl HL.out)).other _ (.inl HL.out)).from (bG HL.out),((HW.out.setCell (by simp) _).setCell (by simp) _).setCell (by simp) _⟩
theorem aFK {w:World}:Calls Tryz.prog 188 #[.int .i64 11] w (ShpR 11 w):=by
 go_enter Tryz.func188,Tryz.ntmps188
 go_upto_region 1 with (fail)
 have hA_:=(Below.refl w.heap.size w).alloc (aF _) (.cells #[.int .i64 0,.slice none 0 0,.int .i64 0] 249)
 have HW:=h! hA_
 clear hA_
 have B2:=h! (Box.new w #[.int .i64 0,.slice none 0 0,.int .i64 0] 249)
 generalize w.alloc (.cells #[.int .i64 0,.slice none 0 0,.int .i64 0] 249)=wv at *
 obtain ⟨lB2,cB2,fB2⟩:=B2.out
 go_wp2_with fail
 refine (gY 1 2 ⟨by decide,by decide⟩ (by decide)).mono ?_
 rintro e w1 ⟨u,rfl,hu,hb1⟩
 obtain ⟨ua,uc,rfl⟩:=hu.ints.form
 simp only [aV] at hu ⊢
 have HU:=h! hu
 have HL:=h! lB2
 clear hu
 clear lB2 cB2 fB2
 replace B2:=h! (B2.out.later hb1)
 replace HW:=h! (HW.out.trans (hb1.mono HW.out.size))
 clear hb1
 obtain ⟨lB2,cB2,fB2⟩:=B2.out
 go_wp2
 exact bodyPost_ret (v:=.tuple #[.agg #[.int .i64 1,.slice ua 2 uc,.int .i64 0],.bool true]) (by simp [results,Tryz.results188,go_sem, *]) rfl
  ⟨_,rfl,(((HU.out.other _ (.inl HL.out)).other _ (.inl HL.out)).other _ (.inl HL.out)).from (bG HL.out),((HW.out.setCell (by simp) _).setCell (by simp) _).setCell (by simp) _⟩
theorem aFL {w:World}:Calls Tryz.prog 188 #[.int .i64 12] w (ShpR 12 w):=by
 go_enter Tryz.func188,Tryz.ntmps188
 go_upto_region 1 with (fail)
 have hA_:=(Below.refl w.heap.size w).alloc (aF _) (.cells #[.int .i64 0,.slice none 0 0,.int .i64 0] 249)
 have HW:=h! hA_
 clear hA_
 have B2:=h! (Box.new w #[.int .i64 0,.slice none 0 0,.int .i64 0] 249)
 generalize w.alloc (.cells #[.int .i64 0,.slice none 0 0,.int .i64 0] 249)=wv at *
 obtain ⟨lB2,cB2,fB2⟩:=B2.out
 go_wp2_with fail
 refine (gY 1 2 ⟨by decide,by decide⟩ (by decide)).mono ?_
 rintro e w1 ⟨u,rfl,hu,hb1⟩
 obtain ⟨ua,uc,rfl⟩:=hu.ints.form
 simp only [aV] at hu ⊢
 have HU:=h! hu
 have HL:=h! lB2
 clear hu
 clear lB2 cB2 fB2
 replace B2:=h! (B2.out.later hb1)
 replace HW:=h! (HW.out.trans (hb1.mono HW.out.size))
 clear hb1
 obtain ⟨lB2,cB2,fB2⟩:=B2.out
 go_wp2
 exact bodyPost_ret (v:=.tuple #[.agg #[.int .i64 1,.slice ua 2 uc,.int .i64 0],.bool true]) (by simp [results,Tryz.results188,go_sem, *]) rfl
  ⟨_,rfl,(((HU.out.other _ (.inl HL.out)).other _ (.inl HL.out)).other _ (.inl HL.out)).from (bG HL.out),((HW.out.setCell (by simp) _).setCell (by simp) _).setCell (by simp) _⟩
end Go.Proofs.YtcmflfkpeodicaaGreat
