/- Part 5. -/
import Derived.Test.YtgmhnepmkaonaaaGreatQA4
namespace Go.Proofs.YtgmhnepmkaonaaaGreat
set_option maxHeartbeats 1600000
set_option linter.unusedSimpArgs false
set_option linter.unusedVariables false
open Go.RowKit
theorem ints_box {w:World} {e:TypeId} {x:Int} (hx:In64 x):Ints (w.alloc (.cells #[.int .i64 x] e)) (.slice (some ⟨w.heap.size,0,none⟩) 1 1) [x]:=by
 refine ⟨Row.of_box (n:=1) (size:=1) (Box.new w #[.int .i64 x] e) rfl (by omega),fun y hy => ?_⟩
 simp at hy;subst hy;exact hx
theorem below_alloc {w w' : World} {o:Obj} (h:Below (w.alloc o).heap.size (w.alloc o) w'):Below w.heap.size w w':=((Below.refl _ _).alloc (Nat.le_refl _) o).trans (h.mono (by simp))
theorem irSame {w:World} (t:Int) (n:Nat) (ht:In64 t) (hn:n < 4294967296):Calls Tryz.prog 190 #[.int .i64 t,.int .i64 n] w fun e w' => ∃ u,e = .returned u/\New 3 w w' u (List.replicate n t)/\Below w.heap.size w w':=by
 have HT:=hd ht
 have HN:=hd hn
 clear ht hn
 go_enter Tryz.func190,Tryz.ntmps190
 go_wp2_with fail
 refine (repeatOne (ints_box HT.out) HN.out).mono ?_
 rintro e w1 ⟨u,rfl,hu,hb⟩
 have HU:=hd hu
 have HB:=hd (below_alloc hb)
 clear hu hb
 go_wp2
 go_ret
 exact ⟨u,rfl,HU.out.from (by simp),HB.out⟩
structure Shp where
 result:Int
 args:List Int
 n:Int
 deriving DecidableEq
def shp (op:Int):Option Shp :=
 if op=1 then some ⟨1,[],1⟩ else if op=2 then some ⟨2,[],2⟩
 else if op=13 \/ op=14 \/ op=15 then some ⟨2,[1,1],0⟩
 else if op=16 then some ⟨2,[2],0⟩ else if op=17 then some ⟨1,[2,1,1],0⟩
 else if op=18 then some ⟨1,[],3⟩ else if op=19 \/ op=21 then some ⟨1,[1],3⟩
 else if op=20 \/ op=22 then some ⟨0,[1,1],3⟩ else if op=23 then some ⟨0,[1],0⟩
 else if op=24 then some ⟨1,[],4⟩ else if op=25 then some ⟨0,[1],4⟩
 else if 3 <= op/\op <= 12 then some ⟨1,[1,1],0⟩ else none
def shp0 (op:Int):Shp:=(shp op).getD ⟨0,[],0⟩
def ShpR (op:Int) (w:World) (e:Ending) (w' : World):Prop :=
 ∃ u,e = .returned (.tuple #[.agg #[.int .i64 (shp0 op).result,u,.int .i64 (shp0 op).n],.bool (shp op).isSome])/\New 3 w w' u (shp0 op).args/\Below w.heap.size w w'
theorem shape1 {w:World}:Calls Tryz.prog 169 #[.int .i64 1] w (ShpR 1 w):=by
 go_enter Tryz.func169,Tryz.ntmps169
 go_upto_region 1 with (fail)
 have B2:Hid (Box (w.alloc (.cells #[.int .i64 0,.slice none 0 0,.int .i64 0] 230)) (w.heap.size) #[.int .i64 0,.slice none 0 0,.int .i64 0]):=hd (by simpa using (Box.new w #[.int .i64 0,.slice none 0 0,.int .i64 0] 230))
 have HW:Hid (Below w.heap.size w (w.alloc (.cells #[.int .i64 0,.slice none 0 0,.int .i64 0] 230))):=hd ((Below.refl _ _).alloc (Nat.le_refl _) _)
 generalize (w.alloc (.cells #[.int .i64 0,.slice none 0 0,.int .i64 0] 230))=wv at *
 obtain ⟨lB2,cB2,fB2⟩:=B2.out
 go_wp2
 exact bodyPost_ret (v:=.tuple #[.agg #[.int .i64 1,.slice none 0 0,.int .i64 1],.bool true]) (by simp [results,Tryz.results169,go_sem, *]) rfl ⟨_,rfl,New.nil,((HW.out.setCell (by simp) _).setCell (by simp) _).setCell (by simp) _⟩
theorem shape2 {w:World}:Calls Tryz.prog 169 #[.int .i64 2] w (ShpR 2 w):=by
 go_enter Tryz.func169,Tryz.ntmps169
 go_upto_region 1 with (fail)
 have B2:Hid (Box (w.alloc (.cells #[.int .i64 0,.slice none 0 0,.int .i64 0] 230)) (w.heap.size) #[.int .i64 0,.slice none 0 0,.int .i64 0]):=hd (by simpa using (Box.new w #[.int .i64 0,.slice none 0 0,.int .i64 0] 230))
 have HW:Hid (Below w.heap.size w (w.alloc (.cells #[.int .i64 0,.slice none 0 0,.int .i64 0] 230))):=hd ((Below.refl _ _).alloc (Nat.le_refl _) _)
 generalize (w.alloc (.cells #[.int .i64 0,.slice none 0 0,.int .i64 0] 230))=wv at *
 obtain ⟨lB2,cB2,fB2⟩:=B2.out
 go_wp2
 exact bodyPost_ret (v:=.tuple #[.agg #[.int .i64 2,.slice none 0 0,.int .i64 2],.bool true]) (by simp [results,Tryz.results169,go_sem, *]) rfl ⟨_,rfl,New.nil,((HW.out.setCell (by simp) _).setCell (by simp) _).setCell (by simp) _⟩
theorem shape18 {w:World}:Calls Tryz.prog 169 #[.int .i64 18] w (ShpR 18 w):=by
 go_enter Tryz.func169,Tryz.ntmps169
 go_upto_region 1 with (fail)
 have B2:Hid (Box (w.alloc (.cells #[.int .i64 0,.slice none 0 0,.int .i64 0] 230)) (w.heap.size) #[.int .i64 0,.slice none 0 0,.int .i64 0]):=hd (by simpa using (Box.new w #[.int .i64 0,.slice none 0 0,.int .i64 0] 230))
 have HW:Hid (Below w.heap.size w (w.alloc (.cells #[.int .i64 0,.slice none 0 0,.int .i64 0] 230))):=hd ((Below.refl _ _).alloc (Nat.le_refl _) _)
 generalize (w.alloc (.cells #[.int .i64 0,.slice none 0 0,.int .i64 0] 230))=wv at *
 obtain ⟨lB2,cB2,fB2⟩:=B2.out
 go_wp2
 exact bodyPost_ret (v:=.tuple #[.agg #[.int .i64 1,.slice none 0 0,.int .i64 3],.bool true]) (by simp [results,Tryz.results169,go_sem, *]) rfl ⟨_,rfl,New.nil,((HW.out.setCell (by simp) _).setCell (by simp) _).setCell (by simp) _⟩
theorem shape24 {w:World}:Calls Tryz.prog 169 #[.int .i64 24] w (ShpR 24 w):=by
 go_enter Tryz.func169,Tryz.ntmps169
 go_upto_region 1 with (fail)
 have B2:Hid (Box (w.alloc (.cells #[.int .i64 0,.slice none 0 0,.int .i64 0] 230)) (w.heap.size) #[.int .i64 0,.slice none 0 0,.int .i64 0]):=hd (by simpa using (Box.new w #[.int .i64 0,.slice none 0 0,.int .i64 0] 230))
 have HW:Hid (Below w.heap.size w (w.alloc (.cells #[.int .i64 0,.slice none 0 0,.int .i64 0] 230))):=hd ((Below.refl _ _).alloc (Nat.le_refl _) _)
 generalize (w.alloc (.cells #[.int .i64 0,.slice none 0 0,.int .i64 0] 230))=wv at *
 obtain ⟨lB2,cB2,fB2⟩:=B2.out
 go_wp2
 exact bodyPost_ret (v:=.tuple #[.agg #[.int .i64 1,.slice none 0 0,.int .i64 4],.bool true]) (by simp [results,Tryz.results169,go_sem, *]) rfl ⟨_,rfl,New.nil,((HW.out.setCell (by simp) _).setCell (by simp) _).setCell (by simp) _⟩
theorem shape13 {w:World}:Calls Tryz.prog 169 #[.int .i64 13] w (ShpR 13 w):=by
 go_enter Tryz.func169,Tryz.ntmps169
 go_upto_region 1 with (fail)
 have B2:Hid (Box (w.alloc (.cells #[.int .i64 0,.slice none 0 0,.int .i64 0] 230)) (w.heap.size) #[.int .i64 0,.slice none 0 0,.int .i64 0]):=hd (by simpa using (Box.new w #[.int .i64 0,.slice none 0 0,.int .i64 0] 230))
 have HW:Hid (Below w.heap.size w (w.alloc (.cells #[.int .i64 0,.slice none 0 0,.int .i64 0] 230))):=hd ((Below.refl _ _).alloc (Nat.le_refl _) _)
 generalize (w.alloc (.cells #[.int .i64 0,.slice none 0 0,.int .i64 0] 230))=wv at *
 obtain ⟨lB2,cB2,fB2⟩:=B2.out
 go_wp2_with fail
 refine (irSame 1 2 ⟨by decide,by decide⟩ (by decide)).mono ?_
 rintro e w1 ⟨u,rfl,hu,hb1⟩
 obtain ⟨ua,uc,rfl⟩:=hu.ints.form
 simp only [List.length_replicate] at hu ⊢
 have HU:=hd hu
 have HL:=hd lB2
 clear hu
 clear lB2 cB2 fB2
 replace B2:=hd (B2.out.later hb1)
 replace HW:=hd (HW.out.trans (hb1.mono HW.out.size))
 clear hb1
 obtain ⟨lB2,cB2,fB2⟩:=B2.out
 go_wp2
 exact bodyPost_ret (v:=.tuple #[.agg #[.int .i64 2,.slice ua 2 uc,.int .i64 0],.bool true]) (by simp [results,Tryz.results169,go_sem, *]) rfl
  ⟨_,rfl,(((HU.out.other _ (.inl HL.out)).other _ (.inl HL.out)).other _ (.inl HL.out)).from (Nat.le_of_lt HL.out),((HW.out.setCell (by simp) _).setCell (by simp) _).setCell (by simp) _⟩
theorem shape14 {w:World}:Calls Tryz.prog 169 #[.int .i64 14] w (ShpR 14 w):=by
 go_enter Tryz.func169,Tryz.ntmps169
 go_upto_region 1 with (fail)
 have B2:Hid (Box (w.alloc (.cells #[.int .i64 0,.slice none 0 0,.int .i64 0] 230)) (w.heap.size) #[.int .i64 0,.slice none 0 0,.int .i64 0]):=hd (by simpa using (Box.new w #[.int .i64 0,.slice none 0 0,.int .i64 0] 230))
 have HW:Hid (Below w.heap.size w (w.alloc (.cells #[.int .i64 0,.slice none 0 0,.int .i64 0] 230))):=hd ((Below.refl _ _).alloc (Nat.le_refl _) _)
 generalize (w.alloc (.cells #[.int .i64 0,.slice none 0 0,.int .i64 0] 230))=wv at *
 obtain ⟨lB2,cB2,fB2⟩:=B2.out
 go_wp2_with fail
 refine (irSame 1 2 ⟨by decide,by decide⟩ (by decide)).mono ?_
 rintro e w1 ⟨u,rfl,hu,hb1⟩
 obtain ⟨ua,uc,rfl⟩:=hu.ints.form
 simp only [List.length_replicate] at hu ⊢
 have HU:=hd hu
 have HL:=hd lB2
 clear hu
 clear lB2 cB2 fB2
 replace B2:=hd (B2.out.later hb1)
 replace HW:=hd (HW.out.trans (hb1.mono HW.out.size))
 clear hb1
 obtain ⟨lB2,cB2,fB2⟩:=B2.out
 go_wp2
 exact bodyPost_ret (v:=.tuple #[.agg #[.int .i64 2,.slice ua 2 uc,.int .i64 0],.bool true]) (by simp [results,Tryz.results169,go_sem, *]) rfl
  ⟨_,rfl,(((HU.out.other _ (.inl HL.out)).other _ (.inl HL.out)).other _ (.inl HL.out)).from (Nat.le_of_lt HL.out),((HW.out.setCell (by simp) _).setCell (by simp) _).setCell (by simp) _⟩
theorem shape15 {w:World}:Calls Tryz.prog 169 #[.int .i64 15] w (ShpR 15 w):=by
 go_enter Tryz.func169,Tryz.ntmps169
 go_upto_region 1 with (fail)
 have B2:Hid (Box (w.alloc (.cells #[.int .i64 0,.slice none 0 0,.int .i64 0] 230)) (w.heap.size) #[.int .i64 0,.slice none 0 0,.int .i64 0]):=hd (by simpa using (Box.new w #[.int .i64 0,.slice none 0 0,.int .i64 0] 230))
 have HW:Hid (Below w.heap.size w (w.alloc (.cells #[.int .i64 0,.slice none 0 0,.int .i64 0] 230))):=hd ((Below.refl _ _).alloc (Nat.le_refl _) _)
 generalize (w.alloc (.cells #[.int .i64 0,.slice none 0 0,.int .i64 0] 230))=wv at *
 obtain ⟨lB2,cB2,fB2⟩:=B2.out
 go_wp2_with fail
 refine (irSame 1 2 ⟨by decide,by decide⟩ (by decide)).mono ?_
 rintro e w1 ⟨u,rfl,hu,hb1⟩
 obtain ⟨ua,uc,rfl⟩:=hu.ints.form
 simp only [List.length_replicate] at hu ⊢
 have HU:=hd hu
 have HL:=hd lB2
 clear hu
 clear lB2 cB2 fB2
 replace B2:=hd (B2.out.later hb1)
 replace HW:=hd (HW.out.trans (hb1.mono HW.out.size))
 clear hb1
 obtain ⟨lB2,cB2,fB2⟩:=B2.out
 go_wp2
 exact bodyPost_ret (v:=.tuple #[.agg #[.int .i64 2,.slice ua 2 uc,.int .i64 0],.bool true]) (by simp [results,Tryz.results169,go_sem, *]) rfl
  ⟨_,rfl,(((HU.out.other _ (.inl HL.out)).other _ (.inl HL.out)).other _ (.inl HL.out)).from (Nat.le_of_lt HL.out),((HW.out.setCell (by simp) _).setCell (by simp) _).setCell (by simp) _⟩
theorem shape16 {w:World}:Calls Tryz.prog 169 #[.int .i64 16] w (ShpR 16 w):=by
 go_enter Tryz.func169,Tryz.ntmps169
 go_upto_region 1 with (fail)
 have B2:Hid (Box (w.alloc (.cells #[.int .i64 0,.slice none 0 0,.int .i64 0] 230)) (w.heap.size) #[.int .i64 0,.slice none 0 0,.int .i64 0]):=hd (by simpa using (Box.new w #[.int .i64 0,.slice none 0 0,.int .i64 0] 230))
 have HW:Hid (Below w.heap.size w (w.alloc (.cells #[.int .i64 0,.slice none 0 0,.int .i64 0] 230))):=hd ((Below.refl _ _).alloc (Nat.le_refl _) _)
 generalize (w.alloc (.cells #[.int .i64 0,.slice none 0 0,.int .i64 0] 230))=wv at *
 obtain ⟨lB2,cB2,fB2⟩:=B2.out
 go_wp2_with fail
 refine (irSame 2 1 ⟨by decide,by decide⟩ (by decide)).mono ?_
 rintro e w1 ⟨u,rfl,hu,hb1⟩
 obtain ⟨ua,uc,rfl⟩:=hu.ints.form
 simp only [List.length_replicate] at hu ⊢
 have HU:=hd hu
 have HL:=hd lB2
 clear hu
 clear lB2 cB2 fB2
 replace B2:=hd (B2.out.later hb1)
 replace HW:=hd (HW.out.trans (hb1.mono HW.out.size))
 clear hb1
 obtain ⟨lB2,cB2,fB2⟩:=B2.out
 go_wp2
 exact bodyPost_ret (v:=.tuple #[.agg #[.int .i64 2,.slice ua 1 uc,.int .i64 0],.bool true]) (by simp [results,Tryz.results169,go_sem, *]) rfl
  ⟨_,rfl,(((HU.out.other _ (.inl HL.out)).other _ (.inl HL.out)).other _ (.inl HL.out)).from (Nat.le_of_lt HL.out),((HW.out.setCell (by simp) _).setCell (by simp) _).setCell (by simp) _⟩
theorem shape19 {w:World}:Calls Tryz.prog 169 #[.int .i64 19] w (ShpR 19 w):=by
 go_enter Tryz.func169,Tryz.ntmps169
 go_upto_region 1 with (fail)
 have B2:Hid (Box (w.alloc (.cells #[.int .i64 0,.slice none 0 0,.int .i64 0] 230)) (w.heap.size) #[.int .i64 0,.slice none 0 0,.int .i64 0]):=hd (by simpa using (Box.new w #[.int .i64 0,.slice none 0 0,.int .i64 0] 230))
 have HW:Hid (Below w.heap.size w (w.alloc (.cells #[.int .i64 0,.slice none 0 0,.int .i64 0] 230))):=hd ((Below.refl _ _).alloc (Nat.le_refl _) _)
 generalize (w.alloc (.cells #[.int .i64 0,.slice none 0 0,.int .i64 0] 230))=wv at *
 obtain ⟨lB2,cB2,fB2⟩:=B2.out
 go_wp2_with fail
 refine (irSame 1 1 ⟨by decide,by decide⟩ (by decide)).mono ?_
 rintro e w1 ⟨u,rfl,hu,hb1⟩
 obtain ⟨ua,uc,rfl⟩:=hu.ints.form
 simp only [List.length_replicate] at hu ⊢
 have HU:=hd hu
 have HL:=hd lB2
 clear hu
 clear lB2 cB2 fB2
 replace B2:=hd (B2.out.later hb1)
 replace HW:=hd (HW.out.trans (hb1.mono HW.out.size))
 clear hb1
 obtain ⟨lB2,cB2,fB2⟩:=B2.out
 go_wp2
 exact bodyPost_ret (v:=.tuple #[.agg #[.int .i64 1,.slice ua 1 uc,.int .i64 3],.bool true]) (by simp [results,Tryz.results169,go_sem, *]) rfl
  ⟨_,rfl,(((HU.out.other _ (.inl HL.out)).other _ (.inl HL.out)).other _ (.inl HL.out)).from (Nat.le_of_lt HL.out),((HW.out.setCell (by simp) _).setCell (by simp) _).setCell (by simp) _⟩
theorem shape21 {w:World}:Calls Tryz.prog 169 #[.int .i64 21] w (ShpR 21 w):=by
 go_enter Tryz.func169,Tryz.ntmps169
 go_upto_region 1 with (fail)
 have B2:Hid (Box (w.alloc (.cells #[.int .i64 0,.slice none 0 0,.int .i64 0] 230)) (w.heap.size) #[.int .i64 0,.slice none 0 0,.int .i64 0]):=hd (by simpa using (Box.new w #[.int .i64 0,.slice none 0 0,.int .i64 0] 230))
 have HW:Hid (Below w.heap.size w (w.alloc (.cells #[.int .i64 0,.slice none 0 0,.int .i64 0] 230))):=hd ((Below.refl _ _).alloc (Nat.le_refl _) _)
 generalize (w.alloc (.cells #[.int .i64 0,.slice none 0 0,.int .i64 0] 230))=wv at *
 obtain ⟨lB2,cB2,fB2⟩:=B2.out
 go_wp2_with fail
 refine (irSame 1 1 ⟨by decide,by decide⟩ (by decide)).mono ?_
 rintro e w1 ⟨u,rfl,hu,hb1⟩
 obtain ⟨ua,uc,rfl⟩:=hu.ints.form
 simp only [List.length_replicate] at hu ⊢
 have HU:=hd hu
 have HL:=hd lB2
 clear hu
 clear lB2 cB2 fB2
 replace B2:=hd (B2.out.later hb1)
 replace HW:=hd (HW.out.trans (hb1.mono HW.out.size))
 clear hb1
 obtain ⟨lB2,cB2,fB2⟩:=B2.out
 go_wp2
 exact bodyPost_ret (v:=.tuple #[.agg #[.int .i64 1,.slice ua 1 uc,.int .i64 3],.bool true]) (by simp [results,Tryz.results169,go_sem, *]) rfl
  ⟨_,rfl,(((HU.out.other _ (.inl HL.out)).other _ (.inl HL.out)).other _ (.inl HL.out)).from (Nat.le_of_lt HL.out),((HW.out.setCell (by simp) _).setCell (by simp) _).setCell (by simp) _⟩
theorem shape20 {w:World}:Calls Tryz.prog 169 #[.int .i64 20] w (ShpR 20 w):=by
 go_enter Tryz.func169,Tryz.ntmps169
 go_upto_region 1 with (fail)
 have B2:Hid (Box (w.alloc (.cells #[.int .i64 0,.slice none 0 0,.int .i64 0] 230)) (w.heap.size) #[.int .i64 0,.slice none 0 0,.int .i64 0]):=hd (by simpa using (Box.new w #[.int .i64 0,.slice none 0 0,.int .i64 0] 230))
 have HW:Hid (Below w.heap.size w (w.alloc (.cells #[.int .i64 0,.slice none 0 0,.int .i64 0] 230))):=hd ((Below.refl _ _).alloc (Nat.le_refl _) _)
 generalize (w.alloc (.cells #[.int .i64 0,.slice none 0 0,.int .i64 0] 230))=wv at *
 obtain ⟨lB2,cB2,fB2⟩:=B2.out
 go_wp2_with fail
 refine (irSame 1 2 ⟨by decide,by decide⟩ (by decide)).mono ?_
 rintro e w1 ⟨u,rfl,hu,hb1⟩
 obtain ⟨ua,uc,rfl⟩:=hu.ints.form
 simp only [List.length_replicate] at hu ⊢
 have HU:=hd hu
 have HL:=hd lB2
 clear hu
 clear lB2 cB2 fB2
 replace B2:=hd (B2.out.later hb1)
 replace HW:=hd (HW.out.trans (hb1.mono HW.out.size))
 clear hb1
 obtain ⟨lB2,cB2,fB2⟩:=B2.out
 go_wp2
 exact bodyPost_ret (v:=.tuple #[.agg #[.int .i64 0,.slice ua 2 uc,.int .i64 3],.bool true]) (by simp [results,Tryz.results169,go_sem, *]) rfl
  ⟨_,rfl,(((HU.out.other _ (.inl HL.out)).other _ (.inl HL.out)).other _ (.inl HL.out)).from (Nat.le_of_lt HL.out),((HW.out.setCell (by simp) _).setCell (by simp) _).setCell (by simp) _⟩
theorem shape22 {w:World}:Calls Tryz.prog 169 #[.int .i64 22] w (ShpR 22 w):=by
 go_enter Tryz.func169,Tryz.ntmps169
 go_upto_region 1 with (fail)
 have B2:Hid (Box (w.alloc (.cells #[.int .i64 0,.slice none 0 0,.int .i64 0] 230)) (w.heap.size) #[.int .i64 0,.slice none 0 0,.int .i64 0]):=hd (by simpa using (Box.new w #[.int .i64 0,.slice none 0 0,.int .i64 0] 230))
 have HW:Hid (Below w.heap.size w (w.alloc (.cells #[.int .i64 0,.slice none 0 0,.int .i64 0] 230))):=hd ((Below.refl _ _).alloc (Nat.le_refl _) _)
 generalize (w.alloc (.cells #[.int .i64 0,.slice none 0 0,.int .i64 0] 230))=wv at *
 obtain ⟨lB2,cB2,fB2⟩:=B2.out
 go_wp2_with fail
 refine (irSame 1 2 ⟨by decide,by decide⟩ (by decide)).mono ?_
 rintro e w1 ⟨u,rfl,hu,hb1⟩
 obtain ⟨ua,uc,rfl⟩:=hu.ints.form
 simp only [List.length_replicate] at hu ⊢
 have HU:=hd hu
 have HL:=hd lB2
 clear hu
 clear lB2 cB2 fB2
 replace B2:=hd (B2.out.later hb1)
 replace HW:=hd (HW.out.trans (hb1.mono HW.out.size))
 clear hb1
 obtain ⟨lB2,cB2,fB2⟩:=B2.out
 go_wp2
 exact bodyPost_ret (v:=.tuple #[.agg #[.int .i64 0,.slice ua 2 uc,.int .i64 3],.bool true]) (by simp [results,Tryz.results169,go_sem, *]) rfl
  ⟨_,rfl,(((HU.out.other _ (.inl HL.out)).other _ (.inl HL.out)).other _ (.inl HL.out)).from (Nat.le_of_lt HL.out),((HW.out.setCell (by simp) _).setCell (by simp) _).setCell (by simp) _⟩
theorem shape23 {w:World}:Calls Tryz.prog 169 #[.int .i64 23] w (ShpR 23 w):=by
 go_enter Tryz.func169,Tryz.ntmps169
 go_upto_region 1 with (fail)
 have B2:Hid (Box (w.alloc (.cells #[.int .i64 0,.slice none 0 0,.int .i64 0] 230)) (w.heap.size) #[.int .i64 0,.slice none 0 0,.int .i64 0]):=hd (by simpa using (Box.new w #[.int .i64 0,.slice none 0 0,.int .i64 0] 230))
 have HW:Hid (Below w.heap.size w (w.alloc (.cells #[.int .i64 0,.slice none 0 0,.int .i64 0] 230))):=hd ((Below.refl _ _).alloc (Nat.le_refl _) _)
 generalize (w.alloc (.cells #[.int .i64 0,.slice none 0 0,.int .i64 0] 230))=wv at *
 obtain ⟨lB2,cB2,fB2⟩:=B2.out
 go_wp2_with fail
 refine (irSame 1 1 ⟨by decide,by decide⟩ (by decide)).mono ?_
 rintro e w1 ⟨u,rfl,hu,hb1⟩
 obtain ⟨ua,uc,rfl⟩:=hu.ints.form
 simp only [List.length_replicate] at hu ⊢
 have HU:=hd hu
 have HL:=hd lB2
 clear hu
 clear lB2 cB2 fB2
 replace B2:=hd (B2.out.later hb1)
 replace HW:=hd (HW.out.trans (hb1.mono HW.out.size))
 clear hb1
 obtain ⟨lB2,cB2,fB2⟩:=B2.out
 go_wp2
 exact bodyPost_ret (v:=.tuple #[.agg #[.int .i64 0,.slice ua 1 uc,.int .i64 0],.bool true]) (by simp [results,Tryz.results169,go_sem, *]) rfl
  ⟨_,rfl,(((HU.out.other _ (.inl HL.out)).other _ (.inl HL.out)).other _ (.inl HL.out)).from (Nat.le_of_lt HL.out),((HW.out.setCell (by simp) _).setCell (by simp) _).setCell (by simp) _⟩
theorem shape25 {w:World}:Calls Tryz.prog 169 #[.int .i64 25] w (ShpR 25 w):=by
 go_enter Tryz.func169,Tryz.ntmps169
 go_upto_region 1 with (fail)
 have B2:Hid (Box (w.alloc (.cells #[.int .i64 0,.slice none 0 0,.int .i64 0] 230)) (w.heap.size) #[.int .i64 0,.slice none 0 0,.int .i64 0]):=hd (by simpa using (Box.new w #[.int .i64 0,.slice none 0 0,.int .i64 0] 230))
 have HW:Hid (Below w.heap.size w (w.alloc (.cells #[.int .i64 0,.slice none 0 0,.int .i64 0] 230))):=hd ((Below.refl _ _).alloc (Nat.le_refl _) _)
 generalize (w.alloc (.cells #[.int .i64 0,.slice none 0 0,.int .i64 0] 230))=wv at *
 obtain ⟨lB2,cB2,fB2⟩:=B2.out
 go_wp2_with fail
 refine (irSame 1 1 ⟨by decide,by decide⟩ (by decide)).mono ?_
 rintro e w1 ⟨u,rfl,hu,hb1⟩
 obtain ⟨ua,uc,rfl⟩:=hu.ints.form
 simp only [List.length_replicate] at hu ⊢
 have HU:=hd hu
 have HL:=hd lB2
 clear hu
 clear lB2 cB2 fB2
 replace B2:=hd (B2.out.later hb1)
 replace HW:=hd (HW.out.trans (hb1.mono HW.out.size))
 clear hb1
 obtain ⟨lB2,cB2,fB2⟩:=B2.out
 go_wp2
 exact bodyPost_ret (v:=.tuple #[.agg #[.int .i64 0,.slice ua 1 uc,.int .i64 4],.bool true]) (by simp [results,Tryz.results169,go_sem, *]) rfl
  ⟨_,rfl,(((HU.out.other _ (.inl HL.out)).other _ (.inl HL.out)).other _ (.inl HL.out)).from (Nat.le_of_lt HL.out),((HW.out.setCell (by simp) _).setCell (by simp) _).setCell (by simp) _⟩
theorem shape3 {w:World}:Calls Tryz.prog 169 #[.int .i64 3] w (ShpR 3 w):=by
 go_enter Tryz.func169,Tryz.ntmps169
 go_upto_region 1 with (fail)
 have B2:Hid (Box (w.alloc (.cells #[.int .i64 0,.slice none 0 0,.int .i64 0] 230)) (w.heap.size) #[.int .i64 0,.slice none 0 0,.int .i64 0]):=hd (by simpa using (Box.new w #[.int .i64 0,.slice none 0 0,.int .i64 0] 230))
 have HW:Hid (Below w.heap.size w (w.alloc (.cells #[.int .i64 0,.slice none 0 0,.int .i64 0] 230))):=hd ((Below.refl _ _).alloc (Nat.le_refl _) _)
 generalize (w.alloc (.cells #[.int .i64 0,.slice none 0 0,.int .i64 0] 230))=wv at *
 obtain ⟨lB2,cB2,fB2⟩:=B2.out
 go_wp2_with fail
 refine (irSame 1 2 ⟨by decide,by decide⟩ (by decide)).mono ?_
 rintro e w1 ⟨u,rfl,hu,hb1⟩
 obtain ⟨ua,uc,rfl⟩:=hu.ints.form
 simp only [List.length_replicate] at hu ⊢
 have HU:=hd hu
 have HL:=hd lB2
 clear hu
 clear lB2 cB2 fB2
 replace B2:=hd (B2.out.later hb1)
 replace HW:=hd (HW.out.trans (hb1.mono HW.out.size))
 clear hb1
 obtain ⟨lB2,cB2,fB2⟩:=B2.out
 go_wp2
 exact bodyPost_ret (v:=.tuple #[.agg #[.int .i64 1,.slice ua 2 uc,.int .i64 0],.bool true]) (by simp [results,Tryz.results169,go_sem, *]) rfl
  ⟨_,rfl,(((HU.out.other _ (.inl HL.out)).other _ (.inl HL.out)).other _ (.inl HL.out)).from (Nat.le_of_lt HL.out),((HW.out.setCell (by simp) _).setCell (by simp) _).setCell (by simp) _⟩
theorem shape4 {w:World}:Calls Tryz.prog 169 #[.int .i64 4] w (ShpR 4 w):=by
 go_enter Tryz.func169,Tryz.ntmps169
 go_upto_region 1 with (fail)
 have B2:Hid (Box (w.alloc (.cells #[.int .i64 0,.slice none 0 0,.int .i64 0] 230)) (w.heap.size) #[.int .i64 0,.slice none 0 0,.int .i64 0]):=hd (by simpa using (Box.new w #[.int .i64 0,.slice none 0 0,.int .i64 0] 230))
 have HW:Hid (Below w.heap.size w (w.alloc (.cells #[.int .i64 0,.slice none 0 0,.int .i64 0] 230))):=hd ((Below.refl _ _).alloc (Nat.le_refl _) _)
 generalize (w.alloc (.cells #[.int .i64 0,.slice none 0 0,.int .i64 0] 230))=wv at *
 obtain ⟨lB2,cB2,fB2⟩:=B2.out
 go_wp2_with fail
 refine (irSame 1 2 ⟨by decide,by decide⟩ (by decide)).mono ?_
 rintro e w1 ⟨u,rfl,hu,hb1⟩
 obtain ⟨ua,uc,rfl⟩:=hu.ints.form
 simp only [List.length_replicate] at hu ⊢
 have HU:=hd hu
 have HL:=hd lB2
 clear hu
 clear lB2 cB2 fB2
 replace B2:=hd (B2.out.later hb1)
 replace HW:=hd (HW.out.trans (hb1.mono HW.out.size))
 clear hb1
 obtain ⟨lB2,cB2,fB2⟩:=B2.out
 go_wp2
 exact bodyPost_ret (v:=.tuple #[.agg #[.int .i64 1,.slice ua 2 uc,.int .i64 0],.bool true]) (by simp [results,Tryz.results169,go_sem, *]) rfl
  ⟨_,rfl,(((HU.out.other _ (.inl HL.out)).other _ (.inl HL.out)).other _ (.inl HL.out)).from (Nat.le_of_lt HL.out),((HW.out.setCell (by simp) _).setCell (by simp) _).setCell (by simp) _⟩
theorem shape5 {w:World}:Calls Tryz.prog 169 #[.int .i64 5] w (ShpR 5 w):=by
 go_enter Tryz.func169,Tryz.ntmps169
 go_upto_region 1 with (fail)
 have B2:Hid (Box (w.alloc (.cells #[.int .i64 0,.slice none 0 0,.int .i64 0] 230)) (w.heap.size) #[.int .i64 0,.slice none 0 0,.int .i64 0]):=hd (by simpa using (Box.new w #[.int .i64 0,.slice none 0 0,.int .i64 0] 230))
 have HW:Hid (Below w.heap.size w (w.alloc (.cells #[.int .i64 0,.slice none 0 0,.int .i64 0] 230))):=hd ((Below.refl _ _).alloc (Nat.le_refl _) _)
 generalize (w.alloc (.cells #[.int .i64 0,.slice none 0 0,.int .i64 0] 230))=wv at *
 obtain ⟨lB2,cB2,fB2⟩:=B2.out
 go_wp2_with fail
 refine (irSame 1 2 ⟨by decide,by decide⟩ (by decide)).mono ?_
 rintro e w1 ⟨u,rfl,hu,hb1⟩
 obtain ⟨ua,uc,rfl⟩:=hu.ints.form
 simp only [List.length_replicate] at hu ⊢
 have HU:=hd hu
 have HL:=hd lB2
 clear hu
 clear lB2 cB2 fB2
 replace B2:=hd (B2.out.later hb1)
 replace HW:=hd (HW.out.trans (hb1.mono HW.out.size))
 clear hb1
 obtain ⟨lB2,cB2,fB2⟩:=B2.out
 go_wp2
 exact bodyPost_ret (v:=.tuple #[.agg #[.int .i64 1,.slice ua 2 uc,.int .i64 0],.bool true]) (by simp [results,Tryz.results169,go_sem, *]) rfl
  ⟨_,rfl,(((HU.out.other _ (.inl HL.out)).other _ (.inl HL.out)).other _ (.inl HL.out)).from (Nat.le_of_lt HL.out),((HW.out.setCell (by simp) _).setCell (by simp) _).setCell (by simp) _⟩
theorem shape6 {w:World}:Calls Tryz.prog 169 #[.int .i64 6] w (ShpR 6 w):=by
 go_enter Tryz.func169,Tryz.ntmps169
 go_upto_region 1 with (fail)
 have B2:Hid (Box (w.alloc (.cells #[.int .i64 0,.slice none 0 0,.int .i64 0] 230)) (w.heap.size) #[.int .i64 0,.slice none 0 0,.int .i64 0]):=hd (by simpa using (Box.new w #[.int .i64 0,.slice none 0 0,.int .i64 0] 230))
 have HW:Hid (Below w.heap.size w (w.alloc (.cells #[.int .i64 0,.slice none 0 0,.int .i64 0] 230))):=hd ((Below.refl _ _).alloc (Nat.le_refl _) _)
 generalize (w.alloc (.cells #[.int .i64 0,.slice none 0 0,.int .i64 0] 230))=wv at *
 obtain ⟨lB2,cB2,fB2⟩:=B2.out
 go_wp2_with fail
 refine (irSame 1 2 ⟨by decide,by decide⟩ (by decide)).mono ?_
 rintro e w1 ⟨u,rfl,hu,hb1⟩
 obtain ⟨ua,uc,rfl⟩:=hu.ints.form
 simp only [List.length_replicate] at hu ⊢
 have HU:=hd hu
 have HL:=hd lB2
 clear hu
 clear lB2 cB2 fB2
 replace B2:=hd (B2.out.later hb1)
 replace HW:=hd (HW.out.trans (hb1.mono HW.out.size))
 clear hb1
 obtain ⟨lB2,cB2,fB2⟩:=B2.out
 go_wp2
 exact bodyPost_ret (v:=.tuple #[.agg #[.int .i64 1,.slice ua 2 uc,.int .i64 0],.bool true]) (by simp [results,Tryz.results169,go_sem, *]) rfl
  ⟨_,rfl,(((HU.out.other _ (.inl HL.out)).other _ (.inl HL.out)).other _ (.inl HL.out)).from (Nat.le_of_lt HL.out),((HW.out.setCell (by simp) _).setCell (by simp) _).setCell (by simp) _⟩
theorem shape7 {w:World}:Calls Tryz.prog 169 #[.int .i64 7] w (ShpR 7 w):=by
 go_enter Tryz.func169,Tryz.ntmps169
 go_upto_region 1 with (fail)
 have B2:Hid (Box (w.alloc (.cells #[.int .i64 0,.slice none 0 0,.int .i64 0] 230)) (w.heap.size) #[.int .i64 0,.slice none 0 0,.int .i64 0]):=hd (by simpa using (Box.new w #[.int .i64 0,.slice none 0 0,.int .i64 0] 230))
 have HW:Hid (Below w.heap.size w (w.alloc (.cells #[.int .i64 0,.slice none 0 0,.int .i64 0] 230))):=hd ((Below.refl _ _).alloc (Nat.le_refl _) _)
 generalize (w.alloc (.cells #[.int .i64 0,.slice none 0 0,.int .i64 0] 230))=wv at *
 obtain ⟨lB2,cB2,fB2⟩:=B2.out
 go_wp2_with fail
 refine (irSame 1 2 ⟨by decide,by decide⟩ (by decide)).mono ?_
 rintro e w1 ⟨u,rfl,hu,hb1⟩
 obtain ⟨ua,uc,rfl⟩:=hu.ints.form
 simp only [List.length_replicate] at hu ⊢
 have HU:=hd hu
 have HL:=hd lB2
 clear hu
 clear lB2 cB2 fB2
 replace B2:=hd (B2.out.later hb1)
 replace HW:=hd (HW.out.trans (hb1.mono HW.out.size))
 clear hb1
 obtain ⟨lB2,cB2,fB2⟩:=B2.out
 go_wp2
 exact bodyPost_ret (v:=.tuple #[.agg #[.int .i64 1,.slice ua 2 uc,.int .i64 0],.bool true]) (by simp [results,Tryz.results169,go_sem, *]) rfl
  ⟨_,rfl,(((HU.out.other _ (.inl HL.out)).other _ (.inl HL.out)).other _ (.inl HL.out)).from (Nat.le_of_lt HL.out),((HW.out.setCell (by simp) _).setCell (by simp) _).setCell (by simp) _⟩
theorem shape8 {w:World}:Calls Tryz.prog 169 #[.int .i64 8] w (ShpR 8 w):=by
 go_enter Tryz.func169,Tryz.ntmps169
 go_upto_region 1 with (fail)
 have B2:Hid (Box (w.alloc (.cells #[.int .i64 0,.slice none 0 0,.int .i64 0] 230)) (w.heap.size) #[.int .i64 0,.slice none 0 0,.int .i64 0]):=hd (by simpa using (Box.new w #[.int .i64 0,.slice none 0 0,.int .i64 0] 230))
 have HW:Hid (Below w.heap.size w (w.alloc (.cells #[.int .i64 0,.slice none 0 0,.int .i64 0] 230))):=hd ((Below.refl _ _).alloc (Nat.le_refl _) _)
 generalize (w.alloc (.cells #[.int .i64 0,.slice none 0 0,.int .i64 0] 230))=wv at *
 obtain ⟨lB2,cB2,fB2⟩:=B2.out
 go_wp2_with fail
 refine (irSame 1 2 ⟨by decide,by decide⟩ (by decide)).mono ?_
 rintro e w1 ⟨u,rfl,hu,hb1⟩
 obtain ⟨ua,uc,rfl⟩:=hu.ints.form
 simp only [List.length_replicate] at hu ⊢
 have HU:=hd hu
 have HL:=hd lB2
 clear hu
 clear lB2 cB2 fB2
 replace B2:=hd (B2.out.later hb1)
 replace HW:=hd (HW.out.trans (hb1.mono HW.out.size))
 clear hb1
 obtain ⟨lB2,cB2,fB2⟩:=B2.out
 go_wp2
 exact bodyPost_ret (v:=.tuple #[.agg #[.int .i64 1,.slice ua 2 uc,.int .i64 0],.bool true]) (by simp [results,Tryz.results169,go_sem, *]) rfl
  ⟨_,rfl,(((HU.out.other _ (.inl HL.out)).other _ (.inl HL.out)).other _ (.inl HL.out)).from (Nat.le_of_lt HL.out),((HW.out.setCell (by simp) _).setCell (by simp) _).setCell (by simp) _⟩
theorem shape9 {w:World}:Calls Tryz.prog 169 #[.int .i64 9] w (ShpR 9 w):=by
 go_enter Tryz.func169,Tryz.ntmps169
 go_upto_region 1 with (fail)
 have B2:Hid (Box (w.alloc (.cells #[.int .i64 0,.slice none 0 0,.int .i64 0] 230)) (w.heap.size) #[.int .i64 0,.slice none 0 0,.int .i64 0]):=hd (by simpa using (Box.new w #[.int .i64 0,.slice none 0 0,.int .i64 0] 230))
 have HW:Hid (Below w.heap.size w (w.alloc (.cells #[.int .i64 0,.slice none 0 0,.int .i64 0] 230))):=hd ((Below.refl _ _).alloc (Nat.le_refl _) _)
 generalize (w.alloc (.cells #[.int .i64 0,.slice none 0 0,.int .i64 0] 230))=wv at *
 obtain ⟨lB2,cB2,fB2⟩:=B2.out
 go_wp2_with fail
 refine (irSame 1 2 ⟨by decide,by decide⟩ (by decide)).mono ?_
 rintro e w1 ⟨u,rfl,hu,hb1⟩
 obtain ⟨ua,uc,rfl⟩:=hu.ints.form
 simp only [List.length_replicate] at hu ⊢
 have HU:=hd hu
 have HL:=hd lB2
 clear hu
 clear lB2 cB2 fB2
 replace B2:=hd (B2.out.later hb1)
 replace HW:=hd (HW.out.trans (hb1.mono HW.out.size))
 clear hb1
 obtain ⟨lB2,cB2,fB2⟩:=B2.out
 go_wp2
 exact bodyPost_ret (v:=.tuple #[.agg #[.int .i64 1,.slice ua 2 uc,.int .i64 0],.bool true]) (by simp [results,Tryz.results169,go_sem, *]) rfl
  ⟨_,rfl,(((HU.out.other _ (.inl HL.out)).other _ (.inl HL.out)).other _ (.inl HL.out)).from (Nat.le_of_lt HL.out),((HW.out.setCell (by simp) _).setCell (by simp) _).setCell (by simp) _⟩
theorem shape10 {w:World}:Calls Tryz.prog 169 #[.int .i64 10] w (ShpR 10 w):=by
 go_enter Tryz.func169,Tryz.ntmps169
 go_upto_region 1 with (fail)
 have B2:Hid (Box (w.alloc (.cells #[.int .i64 0,.slice none 0 0,.int .i64 0] 230)) (w.heap.size) #[.int .i64 0,.slice none 0 0,.int .i64 0]):=hd (by simpa using (Box.new w #[.int .i64 0,.slice none 0 0,.int .i64 0] 230))
 have HW:Hid (Below w.heap.size w (w.alloc (.cells #[.int .i64 0,.slice none 0 0,.int .i64 0] 230))):=hd ((Below.refl _ _).alloc (Nat.le_refl _) _)
 generalize (w.alloc (.cells #[.int .i64 0,.slice none 0 0,.int .i64 0] 230))=wv at *
 obtain ⟨lB2,cB2,fB2⟩:=B2.out
 go_wp2_with fail
 refine (irSame 1 2 ⟨by decide,by decide⟩ (by decide)).mono ?_
 rintro e w1 ⟨u,rfl,hu,hb1⟩
 obtain ⟨ua,uc,rfl⟩:=hu.ints.form
 simp only [List.length_replicate] at hu ⊢
 have HU:=hd hu
 have HL:=hd lB2
 clear hu
 clear lB2 cB2 fB2
 replace B2:=hd (B2.out.later hb1)
 replace HW:=hd (HW.out.trans (hb1.mono HW.out.size))
 clear hb1
 obtain ⟨lB2,cB2,fB2⟩:=B2.out
 go_wp2
 exact bodyPost_ret (v:=.tuple #[.agg #[.int .i64 1,.slice ua 2 uc,.int .i64 0],.bool true]) (by simp [results,Tryz.results169,go_sem, *]) rfl
  ⟨_,rfl,(((HU.out.other _ (.inl HL.out)).other _ (.inl HL.out)).other _ (.inl HL.out)).from (Nat.le_of_lt HL.out),((HW.out.setCell (by simp) _).setCell (by simp) _).setCell (by simp) _⟩
theorem shape11 {w:World}:Calls Tryz.prog 169 #[.int .i64 11] w (ShpR 11 w):=by
 go_enter Tryz.func169,Tryz.ntmps169
 go_upto_region 1 with (fail)
 have B2:Hid (Box (w.alloc (.cells #[.int .i64 0,.slice none 0 0,.int .i64 0] 230)) (w.heap.size) #[.int .i64 0,.slice none 0 0,.int .i64 0]):=hd (by simpa using (Box.new w #[.int .i64 0,.slice none 0 0,.int .i64 0] 230))
 have HW:Hid (Below w.heap.size w (w.alloc (.cells #[.int .i64 0,.slice none 0 0,.int .i64 0] 230))):=hd ((Below.refl _ _).alloc (Nat.le_refl _) _)
 generalize (w.alloc (.cells #[.int .i64 0,.slice none 0 0,.int .i64 0] 230))=wv at *
 obtain ⟨lB2,cB2,fB2⟩:=B2.out
 go_wp2_with fail
 refine (irSame 1 2 ⟨by decide,by decide⟩ (by decide)).mono ?_
 rintro e w1 ⟨u,rfl,hu,hb1⟩
 obtain ⟨ua,uc,rfl⟩:=hu.ints.form
 simp only [List.length_replicate] at hu ⊢
 have HU:=hd hu
 have HL:=hd lB2
 clear hu
 clear lB2 cB2 fB2
 replace B2:=hd (B2.out.later hb1)
 replace HW:=hd (HW.out.trans (hb1.mono HW.out.size))
 clear hb1
 obtain ⟨lB2,cB2,fB2⟩:=B2.out
 go_wp2
 exact bodyPost_ret (v:=.tuple #[.agg #[.int .i64 1,.slice ua 2 uc,.int .i64 0],.bool true]) (by simp [results,Tryz.results169,go_sem, *]) rfl
  ⟨_,rfl,(((HU.out.other _ (.inl HL.out)).other _ (.inl HL.out)).other _ (.inl HL.out)).from (Nat.le_of_lt HL.out),((HW.out.setCell (by simp) _).setCell (by simp) _).setCell (by simp) _⟩
theorem shape12 {w:World}:Calls Tryz.prog 169 #[.int .i64 12] w (ShpR 12 w):=by
 go_enter Tryz.func169,Tryz.ntmps169
 go_upto_region 1 with (fail)
 have B2:Hid (Box (w.alloc (.cells #[.int .i64 0,.slice none 0 0,.int .i64 0] 230)) (w.heap.size) #[.int .i64 0,.slice none 0 0,.int .i64 0]):=hd (by simpa using (Box.new w #[.int .i64 0,.slice none 0 0,.int .i64 0] 230))
 have HW:Hid (Below w.heap.size w (w.alloc (.cells #[.int .i64 0,.slice none 0 0,.int .i64 0] 230))):=hd ((Below.refl _ _).alloc (Nat.le_refl _) _)
 generalize (w.alloc (.cells #[.int .i64 0,.slice none 0 0,.int .i64 0] 230))=wv at *
 obtain ⟨lB2,cB2,fB2⟩:=B2.out
 go_wp2_with fail
 refine (irSame 1 2 ⟨by decide,by decide⟩ (by decide)).mono ?_
 rintro e w1 ⟨u,rfl,hu,hb1⟩
 obtain ⟨ua,uc,rfl⟩:=hu.ints.form
 simp only [List.length_replicate] at hu ⊢
 have HU:=hd hu
 have HL:=hd lB2
 clear hu
 clear lB2 cB2 fB2
 replace B2:=hd (B2.out.later hb1)
 replace HW:=hd (HW.out.trans (hb1.mono HW.out.size))
 clear hb1
 obtain ⟨lB2,cB2,fB2⟩:=B2.out
 go_wp2
 exact bodyPost_ret (v:=.tuple #[.agg #[.int .i64 1,.slice ua 2 uc,.int .i64 0],.bool true]) (by simp [results,Tryz.results169,go_sem, *]) rfl
  ⟨_,rfl,(((HU.out.other _ (.inl HL.out)).other _ (.inl HL.out)).other _ (.inl HL.out)).from (Nat.le_of_lt HL.out),((HW.out.setCell (by simp) _).setCell (by simp) _).setCell (by simp) _⟩
end Go.Proofs.YtgmhnepmkaonaaaGreat
