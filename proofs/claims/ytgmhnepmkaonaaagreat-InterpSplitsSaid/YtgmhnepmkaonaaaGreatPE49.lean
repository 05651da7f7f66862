/- Part 49. -/
import Derived.OwnWalk
import Derived.Test.YtgmhnepmkaonaaaGreatPE38
namespace Go.Proofs.YtgmhnepmkaonaaaGreat
set_option linter.all false
open Go.RowKit
theorem tS:Enters Tryz.prog 140:=enters_of Tryz.func140 (by kernel_rfl) rfl
def aAE (f:FuncD) (d k b at_:Int) (w:World) (e:Ending) (w' : World):Prop := ∃ r:Bool,e = .returned (.bool r)/\(r=true ↔ ¬ kK f d k b at_)/\Below w.heap.size w w'
set_option maxHeartbeats 3200000 in
theorem aIM {f:FuncD} {w:World} {bs bt bg lg lcap bm:Nat} {g:Array Value} {pv ov lv A2:Value} {O:List Nat} {I:Nat -> Option Nat} (hS:StrM f w bs bt bg lg lcap bm g pv ov lv A2 O I) (hO:gV f O) (hD:DomI f O I) (hc:d7 f=0)
  {id d k b at_:Int} {b1 b2 b3:Nat} (he:((entF f).find? fun e=>e.1 == id)=some (id,d,k)) (hd:0 <= d/\d < (f.blocks.length:Int)) (hb:0 <= b/\b < (f.blocks.length:Int))
  (h1:Box w b1 #[.pointer (some ⟨bs,0,none⟩)]) (h2:Box w b2 #[.int .i64 b]) (h3:Box w b3 #[.int .i64 at_]) :
  Calls Tryz.prog 140 #[.int .i64 id,.pointer (some ⟨b1,0,none⟩),.pointer (some ⟨b2,0,none⟩),.pointer (some ⟨b3,0,none⟩)] w (aAE f d k b at_ w):=by
 have HA:=h! (ahead hS hO hD hc (at_:=at_) he hd hb)
 obtain ⟨l1,c1,f1⟩:=h1
 obtain ⟨l2,c2,f2⟩:=h2
 obtain ⟨l3,c3,f3⟩:=h3
 clear hS hO hD hc he hd hb
 go_enter Tryz.func140,Tryz.ntmps140
 go_wp2_with fail
 refine HA.out.mono ?_
 rintro e w2 ⟨r,rfl,hr,hb⟩
 have HR:=h! hr
 have HB:=h! hb
 clear hr hb
 cases r
 ·go_wp2
  go_ret
  exact ⟨true,rfl,⟨(fun _ h=>by have:=HR.out.2 h;simp at this),(fun _=>rfl)⟩,HB.out⟩
 ·go_wp2
  go_ret
  exact ⟨false,rfl,⟨(fun h=>by cases h),(fun h=>absurd (HR.out.1 (by trivial)) h)⟩,HB.out⟩
end Go.Proofs.YtgmhnepmkaonaaaGreat
