/- Part 8. -/
import Derived.Test.YtagabiidbbhhmaaGreatET7
namespace Go.Proofs.YtagabiidbbhhmaaGreat
set_option maxHeartbeats 3200000
set_option linter.all false
set_option maxRecDepth 100000
open Go.RowKit
def uO(nb:Nat)(b:Int):Bool:= !numB nb b||b == 0
theorem pU(nb:Nat)(l:List Int):(!(l.any (uO nb)))=l.all fun b=>decide (1<=b)&&decide (b<(nb:Int)):=by rw[List.not_any_eq_all_not];congr 1;funext b;unfold uO numB;rw[cH];simp only[Bool.not_or,Bool.not_not,aK,decide_eq_true_eq,Bool.not_eq_true',beq_eq_false_iff_ne,ne_eq];omega
theorem zT{w:World}{bc bb:Nat}{vp:Value}{ab:Option Addr}{nb cb:Nat}{ar ce:Int}{bm:Nat}(hb:Box w bc (chk vp (.slice ab nb cb) ar ce bm))(hc:Box w bb #[.pointer (some ⟨bc,0,none⟩)])(xs:List Int):
  Asks 207 #[.pointer (some ⟨bb,0,none⟩)] w xs (uO nb):=by
 intro W x hW _;show Calls Tryz.prog 207 #[.int .i64 x,.pointer (some ⟨bb,0,none⟩)] W _;have HB:=h! (hb.later hW);have h0:=(hc.later hW).at 0 rfl;clear hb hc hW
 cases h1:numB nb x<;>cases h2:(x == 0);all_goals
  have H1:=h! h1;have HR:Hid (uO nb x=_):=h! (by unfold uO;rw[h1,h2]);clear h1;go_enter Tryz.func207,Tryz.ntmps207;go_wp2_with (go_at_call 205;refine(wJ HB.out x _ H1.out).mono ?_;rintro e w1 ⟨rfl,rfl⟩);go_ret;exact⟨by rw[HR.out];rfl,Below.refl _ _⟩
theorem pV:Enters Tryz.prog 207:=enters_of Tryz.func207 (by kernel_rfl) rfl
def lE:List (Int×Value):=[(1,.int .i64 1),(2,.int .i64 2),(3,.int .i64 0),(4,.int .i64 0)]
theorem oD:mput (mput (mput (mput [] 1 (.int .i64 1)) 2 (.int .i64 2)) 3 (.int .i64 0)) 4 (.int .i64 0)=lE:=by kernel_rfl
theorem aKU{w:World}{bc bm:Nat}{vp:Value}{ab:Option Addr}{nb cb:Nat}{ar ce:Int}{val N:Int}{to:List Int}{n:Nat}{at_:Option Addr}{ct:Nat}
  (hb:Box w bc (chk vp (.slice ab nb cb) ar ce bm)) (hn:n=to.length) (hs:Ints w (.slice at_ n ct) to):
  Calls Tryz.prog 182 #[.pointer (some ⟨bc,0,none⟩),.agg #[.int .i64 1,.int .i64 val,.slice at_ n ct,.int .i64 N]] w fun e w'=>e=.returned (.bool (jB nb ⟨1,val,to,N⟩))/\Below w.heap.size w w':=by
 have ba:=h! hb;have HS:=h! hs;have HN:=h! hn;obtain⟨r,hr⟩:∃r,r=jB nb ⟨1,val,to,N⟩:=⟨_,rfl⟩;have HR:Hid (r=((to.all fun b=>decide (1<=b)&&decide (b<(nb:Int)))&&(n == 1&&val == -1&&N == 0))):=h! (by rw[hr,hn];unfold jB;simp);rw[<-hr];clear hb hs hn hr;have aq:=@run_makeMap Tryz.prog;go_enter Tryz.func182,Tryz.ntmps182;go_upto_region 1 with(fail);have aa:=(Below.refl w.heap.size w).alloc (aC _) (.cells #[.pointer (some ⟨bc,0,none⟩)] 201);have HW:=h! aa;clear aa;have B2:=h! (Box.new w #[.pointer (some ⟨bc,0,none⟩)] 201);have ac:(w.alloc (.cells #[.pointer (some ⟨bc,0,none⟩)] 201)).heap.size=w.heap.size+1:=World.size_alloc _ _;generalize w.alloc (.cells #[.pointer (some ⟨bc,0,none⟩)] 201)=ah at*;have aa:=(Below.refl ah.heap.size ah).alloc (aC _) (.cells #[.int .i64 1,.int .i64 val,.slice at_ n ct,.int .i64 N] 61);replace B2:=h! (B2.later aa);replace HW:=w! HW aa;clear aa;have B3:=h! (Box.new ah #[.int .i64 1,.int .i64 val,.slice at_ n ct,.int .i64 N] 61);rw[ac]at B3;clear ac;generalize ah.alloc (.cells #[.int .i64 1,.int .i64 val,.slice at_ n ct,.int .i64 N] 61)=wv at*;obtain⟨ae,ak,af⟩:=B2.out;obtain⟨ag,ai,al⟩:=B3.out;have HI:=h! (IMap.new wv);have aj:=h! (Turn.refl [wv.heap.size] (wv.alloc (.map #[] 0)));have HLV:=h! HW.size;have HL3:=h! B3.lt;have HL2:=h! B2.lt;clear ae ak af ag ai al;go_upto_region 2 with(with_reducible refine gC (q:=.i64) (b:=wv.heap.size) rfl _ _ _ _ (.inr rfl) Tryz.underlying93 Tryz.underlying3 rfl HI.out rfl ?_;intro w2 am _ ap;replace HI:=h! am;replace aj:=h! (aj.out.trans ap);clear am ap);clear aq;replace HI:Hid (IMap w2 wv.heap.size lE):=h! (by rw[<-oD];exact HI);have an:Below wv.heap.size wv (wv.alloc (.map #[] 0)):=(Below.refl _ _).alloc (aC _) _;have ad:Below wv.heap.size wv w2:=an.trans (aj.below (by simp) (fun x hx=>by simp at hx;omega));clear aj an;obtain⟨ae,ak,af⟩:=B2.out;obtain⟨ag,ai,al⟩:=B3.out;clear ae ak af ag ai al;replace B2:=h! (B2.later ad);replace B3:=h! (B3.later ad);replace HW:=w! HW ad;clear ad;obtain⟨ae,ak,af⟩:=B2.out;obtain⟨ag,ai,al⟩:=B3.out;have ax:=h! (ba.later HW.out);have az:=h! (HS.below HW.out);have aw:Hid (mget lE 1=some (.int .i64 1)):=h! (by kernel_rfl)
 cases hN0:decide (N<0)<;>cases hN1:decide (0<N)<;>cases hv:(val != -1)<;>cases hl:((n:Int) != 1);all_goals
  have H0:=h! hN0;have H1:=h! hN1;have HV:=h! hv;have HL:=h! hl;go_wp2_with (first
   | (at_lookup;refine gO (q:=.i64) (z:=.int .i64 0) (b:=wv.heap.size) (mm:=lE) (y:=1) rfl _ _ _ rfl Tryz.underlying93 Tryz.underlying3 (iQ _) rfl HI.out rfl ?_;rw[aw.out])
   | (go_at_call 105;refine(mK az.out _ _ (uO nb) pV (zT ax.out B2.out _)).mono ?_;rintro e w4 ⟨rfl,ao⟩;have ay:=w! HW ao;clear ao))
  go_ret;have e1:=H0.out;have e2:=H1.out;have e3:(val == -1)= !(val != -1):=by simp[bne]
  have e5:(n == 1)= !((n:Int) != 1):=by rw[show(n == 1)=((n:Int) == 1) by(rw[cH];simp;try omega)];simp[bne]
  rw[HV.out]at e3;rw[HL.out]at e5;first
   | exact⟨by rw[HR.out,pU,e5];(try rw[e3]);simp at e1 e2⊢;try omega,ay.out⟩
   | exact⟨by rw[HR.out,e5];(try rw[e3]);simp at e1 e2⊢;try omega,HW.out⟩
theorem aKV{w:World}{bc bm:Nat}{vp:Value}{ab:Option Addr}{nb cb:Nat}{ar ce:Int}{val N:Int}{to:List Int}{n:Nat}{at_:Option Addr}{ct:Nat}
  (hb:Box w bc (chk vp (.slice ab nb cb) ar ce bm)) (hn:n=to.length) (hs:Ints w (.slice at_ n ct) to):
  Calls Tryz.prog 182 #[.pointer (some ⟨bc,0,none⟩),.agg #[.int .i64 2,.int .i64 val,.slice at_ n ct,.int .i64 N]] w fun e w'=>e=.returned (.bool (jB nb ⟨2,val,to,N⟩))/\Below w.heap.size w w':=by
 have ba:=h! hb;have HS:=h! hs;have HN:=h! hn;obtain⟨r,hr⟩:∃r,r=jB nb ⟨2,val,to,N⟩:=⟨_,rfl⟩;have HR:Hid (r=((to.all fun b=>decide (1<=b)&&decide (b<(nb:Int)))&&(n == 2&&N == 0))):=h! (by rw[hr,hn];unfold jB;simp);rw[<-hr];clear hb hs hn hr;have aq:=@run_makeMap Tryz.prog;go_enter Tryz.func182,Tryz.ntmps182;go_upto_region 1 with(fail);have aa:=(Below.refl w.heap.size w).alloc (aC _) (.cells #[.pointer (some ⟨bc,0,none⟩)] 201);have HW:=h! aa;clear aa;have B2:=h! (Box.new w #[.pointer (some ⟨bc,0,none⟩)] 201);have ac:(w.alloc (.cells #[.pointer (some ⟨bc,0,none⟩)] 201)).heap.size=w.heap.size+1:=World.size_alloc _ _;generalize w.alloc (.cells #[.pointer (some ⟨bc,0,none⟩)] 201)=ah at*;have aa:=(Below.refl ah.heap.size ah).alloc (aC _) (.cells #[.int .i64 2,.int .i64 val,.slice at_ n ct,.int .i64 N] 61);replace B2:=h! (B2.later aa);replace HW:=w! HW aa;clear aa;have B3:=h! (Box.new ah #[.int .i64 2,.int .i64 val,.slice at_ n ct,.int .i64 N] 61);rw[ac]at B3;clear ac;generalize ah.alloc (.cells #[.int .i64 2,.int .i64 val,.slice at_ n ct,.int .i64 N] 61)=wv at*;obtain⟨ae,ak,af⟩:=B2.out;obtain⟨ag,ai,al⟩:=B3.out;have HI:=h! (IMap.new wv);have aj:=h! (Turn.refl [wv.heap.size] (wv.alloc (.map #[] 0)));have HLV:=h! HW.size;have HL3:=h! B3.lt;have HL2:=h! B2.lt;clear ae ak af ag ai al;go_upto_region 2 with(with_reducible refine gC (q:=.i64) (b:=wv.heap.size) rfl _ _ _ _ (.inr rfl) Tryz.underlying93 Tryz.underlying3 rfl HI.out rfl ?_;intro w2 am _ ap;replace HI:=h! am;replace aj:=h! (aj.out.trans ap);clear am ap);clear aq;replace HI:Hid (IMap w2 wv.heap.size lE):=h! (by rw[<-oD];exact HI);have an:Below wv.heap.size wv (wv.alloc (.map #[] 0)):=(Below.refl _ _).alloc (aC _) _;have ad:Below wv.heap.size wv w2:=an.trans (aj.below (by simp) (fun x hx=>by simp at hx;omega));clear aj an;obtain⟨ae,ak,af⟩:=B2.out;obtain⟨ag,ai,al⟩:=B3.out;clear ae ak af ag ai al;replace B2:=h! (B2.later ad);replace B3:=h! (B3.later ad);replace HW:=w! HW ad;clear ad;obtain⟨ae,ak,af⟩:=B2.out;obtain⟨ag,ai,al⟩:=B3.out;have ax:=h! (ba.later HW.out);have az:=h! (HS.below HW.out);have aw:Hid (mget lE 2=some (.int .i64 2)):=h! (by kernel_rfl)
 cases hN0:decide (N<0)<;>cases hN1:decide (0<N)<;>cases hv:(val != -1)<;>cases hl:((n:Int) != 2);all_goals
  have H0:=h! hN0;have H1:=h! hN1;have HV:=h! hv;have HL:=h! hl;go_wp2_with (first
   | (at_lookup;refine gO (q:=.i64) (z:=.int .i64 0) (b:=wv.heap.size) (mm:=lE) (y:=2) rfl _ _ _ rfl Tryz.underlying93 Tryz.underlying3 (iQ _) rfl HI.out rfl ?_;rw[aw.out])
   | (go_at_call 105;refine(mK az.out _ _ (uO nb) pV (zT ax.out B2.out _)).mono ?_;rintro e w4 ⟨rfl,ao⟩;have ay:=w! HW ao;clear ao))
  go_ret;have e1:=H0.out;have e2:=H1.out;have e3:(val == -1)= !(val != -1):=by simp[bne]
  have e5:(n == 2)= !((n:Int) != 2):=by rw[show(n == 2)=((n:Int) == 2) by(rw[cH];simp;try omega)];simp[bne]
  rw[HV.out]at e3;rw[HL.out]at e5;first
   | exact⟨by rw[HR.out,pU,e5];(try rw[e3]);simp at e1 e2⊢;try omega,ay.out⟩
   | exact⟨by rw[HR.out,e5];(try rw[e3]);simp at e1 e2⊢;try omega,HW.out⟩
theorem aKW{w:World}{bc bm:Nat}{vp:Value}{ab:Option Addr}{nb cb:Nat}{ar ce:Int}{val N:Int}{to:List Int}{n:Nat}{at_:Option Addr}{ct:Nat}
  (hb:Box w bc (chk vp (.slice ab nb cb) ar ce bm)) (hn:n=to.length) (hs:Ints w (.slice at_ n ct) to):
  Calls Tryz.prog 182 #[.pointer (some ⟨bc,0,none⟩),.agg #[.int .i64 3,.int .i64 val,.slice at_ n ct,.int .i64 N]] w fun e w'=>e=.returned (.bool (jB nb ⟨3,val,to,N⟩))/\Below w.heap.size w w':=by
 have ba:=h! hb;have HS:=h! hs;have HN:=h! hn;obtain⟨r,hr⟩:∃r,r=jB nb ⟨3,val,to,N⟩:=⟨_,rfl⟩;have HR:Hid (r=((to.all fun b=>decide (1<=b)&&decide (b<(nb:Int)))&&(n == 0&&N == 0))):=h! (by rw[hr,hn];unfold jB;simp);rw[<-hr];clear hb hs hn hr;have aq:=@run_makeMap Tryz.prog;go_enter Tryz.func182,Tryz.ntmps182;go_upto_region 1 with(fail);have aa:=(Below.refl w.heap.size w).alloc (aC _) (.cells #[.pointer (some ⟨bc,0,none⟩)] 201);have HW:=h! aa;clear aa;have B2:=h! (Box.new w #[.pointer (some ⟨bc,0,none⟩)] 201);have ac:(w.alloc (.cells #[.pointer (some ⟨bc,0,none⟩)] 201)).heap.size=w.heap.size+1:=World.size_alloc _ _;generalize w.alloc (.cells #[.pointer (some ⟨bc,0,none⟩)] 201)=ah at*;have aa:=(Below.refl ah.heap.size ah).alloc (aC _) (.cells #[.int .i64 3,.int .i64 val,.slice at_ n ct,.int .i64 N] 61);replace B2:=h! (B2.later aa);replace HW:=w! HW aa;clear aa;have B3:=h! (Box.new ah #[.int .i64 3,.int .i64 val,.slice at_ n ct,.int .i64 N] 61);rw[ac]at B3;clear ac;generalize ah.alloc (.cells #[.int .i64 3,.int .i64 val,.slice at_ n ct,.int .i64 N] 61)=wv at*;obtain⟨ae,ak,af⟩:=B2.out;obtain⟨ag,ai,al⟩:=B3.out;have HI:=h! (IMap.new wv);have aj:=h! (Turn.refl [wv.heap.size] (wv.alloc (.map #[] 0)));have HLV:=h! HW.size;have HL3:=h! B3.lt;have HL2:=h! B2.lt;clear ae ak af ag ai al;go_upto_region 2 with(with_reducible refine gC (q:=.i64) (b:=wv.heap.size) rfl _ _ _ _ (.inr rfl) Tryz.underlying93 Tryz.underlying3 rfl HI.out rfl ?_;intro w2 am _ ap;replace HI:=h! am;replace aj:=h! (aj.out.trans ap);clear am ap);clear aq;replace HI:Hid (IMap w2 wv.heap.size lE):=h! (by rw[<-oD];exact HI);have an:Below wv.heap.size wv (wv.alloc (.map #[] 0)):=(Below.refl _ _).alloc (aC _) _;have ad:Below wv.heap.size wv w2:=an.trans (aj.below (by simp) (fun x hx=>by simp at hx;omega));clear aj an;obtain⟨ae,ak,af⟩:=B2.out;obtain⟨ag,ai,al⟩:=B3.out;clear ae ak af ag ai al;replace B2:=h! (B2.later ad);replace B3:=h! (B3.later ad);replace HW:=w! HW ad;clear ad;obtain⟨ae,ak,af⟩:=B2.out;obtain⟨ag,ai,al⟩:=B3.out;have ax:=h! (ba.later HW.out);have az:=h! (HS.below HW.out);have aw:Hid (mget lE 3=some (.int .i64 0)):=h! (by kernel_rfl)
 cases hN0:decide (N<0)<;>cases hN1:decide (0<N)<;>cases hv:(val != -1)<;>cases hl:((n:Int) != 0);all_goals
  have H0:=h! hN0;have H1:=h! hN1;have HV:=h! hv;have HL:=h! hl;go_wp2_with (first
   | (at_lookup;refine gO (q:=.i64) (z:=.int .i64 0) (b:=wv.heap.size) (mm:=lE) (y:=3) rfl _ _ _ rfl Tryz.underlying93 Tryz.underlying3 (iQ _) rfl HI.out rfl ?_;rw[aw.out])
   | (go_at_call 105;refine(mK az.out _ _ (uO nb) pV (zT ax.out B2.out _)).mono ?_;rintro e w4 ⟨rfl,ao⟩;have ay:=w! HW ao;clear ao))
  go_ret;have e1:=H0.out;have e2:=H1.out;have e3:(val == -1)= !(val != -1):=by simp[bne]
  have e5:(n == 0)= !((n:Int) != 0):=by rw[show(n == 0)=((n:Int) == 0) by(rw[cH];simp;try omega)];simp[bne]
  rw[HV.out]at e3;rw[HL.out]at e5;first
   | exact⟨by rw[HR.out,pU,e5];(try rw[e3]);simp at e1 e2⊢;try omega,ay.out⟩
   | exact⟨by rw[HR.out,e5];(try rw[e3]);simp at e1 e2⊢;try omega,HW.out⟩
theorem aKX{w:World}{bc bm:Nat}{vp:Value}{ab:Option Addr}{nb cb:Nat}{ar ce:Int}{val N:Int}{to:List Int}{n:Nat}{at_:Option Addr}{ct:Nat}
  (hb:Box w bc (chk vp (.slice ab nb cb) ar ce bm)) (hn:n=to.length) (hs:Ints w (.slice at_ n ct) to):
  Calls Tryz.prog 182 #[.pointer (some ⟨bc,0,none⟩),.agg #[.int .i64 4,.int .i64 val,.slice at_ n ct,.int .i64 N]] w fun e w'=>e=.returned (.bool (jB nb ⟨4,val,to,N⟩))/\Below w.heap.size w w':=by
 have ba:=h! hb;have HS:=h! hs;have HN:=h! hn;obtain⟨r,hr⟩:∃r,r=jB nb ⟨4,val,to,N⟩:=⟨_,rfl⟩;have HR:Hid (r=((to.all fun b=>decide (1<=b)&&decide (b<(nb:Int)))&&(n == 0&&val == -1&&decide (0<=N)))):=h! (by rw[hr,hn];unfold jB;simp);rw[<-hr];clear hb hs hn hr;have aq:=@run_makeMap Tryz.prog;go_enter Tryz.func182,Tryz.ntmps182;go_upto_region 1 with(fail);have aa:=(Below.refl w.heap.size w).alloc (aC _) (.cells #[.pointer (some ⟨bc,0,none⟩)] 201);have HW:=h! aa;clear aa;have B2:=h! (Box.new w #[.pointer (some ⟨bc,0,none⟩)] 201);have ac:(w.alloc (.cells #[.pointer (some ⟨bc,0,none⟩)] 201)).heap.size=w.heap.size+1:=World.size_alloc _ _;generalize w.alloc (.cells #[.pointer (some ⟨bc,0,none⟩)] 201)=ah at*;have aa:=(Below.refl ah.heap.size ah).alloc (aC _) (.cells #[.int .i64 4,.int .i64 val,.slice at_ n ct,.int .i64 N] 61);replace B2:=h! (B2.later aa);replace HW:=w! HW aa;clear aa;have B3:=h! (Box.new ah #[.int .i64 4,.int .i64 val,.slice at_ n ct,.int .i64 N] 61);rw[ac]at B3;clear ac;generalize ah.alloc (.cells #[.int .i64 4,.int .i64 val,.slice at_ n ct,.int .i64 N] 61)=wv at*;obtain⟨ae,ak,af⟩:=B2.out;obtain⟨ag,ai,al⟩:=B3.out;have HI:=h! (IMap.new wv);have aj:=h! (Turn.refl [wv.heap.size] (wv.alloc (.map #[] 0)));have HLV:=h! HW.size;have HL3:=h! B3.lt;have HL2:=h! B2.lt;clear ae ak af ag ai al;go_upto_region 2 with(with_reducible refine gC (q:=.i64) (b:=wv.heap.size) rfl _ _ _ _ (.inr rfl) Tryz.underlying93 Tryz.underlying3 rfl HI.out rfl ?_;intro w2 am _ ap;replace HI:=h! am;replace aj:=h! (aj.out.trans ap);clear am ap);clear aq;replace HI:Hid (IMap w2 wv.heap.size lE):=h! (by rw[<-oD];exact HI);have an:Below wv.heap.size wv (wv.alloc (.map #[] 0)):=(Below.refl _ _).alloc (aC _) _;have ad:Below wv.heap.size wv w2:=an.trans (aj.below (by simp) (fun x hx=>by simp at hx;omega));clear aj an;obtain⟨ae,ak,af⟩:=B2.out;obtain⟨ag,ai,al⟩:=B3.out;clear ae ak af ag ai al;replace B2:=h! (B2.later ad);replace B3:=h! (B3.later ad);replace HW:=w! HW ad;clear ad;obtain⟨ae,ak,af⟩:=B2.out;obtain⟨ag,ai,al⟩:=B3.out;have ax:=h! (ba.later HW.out);have az:=h! (HS.below HW.out);have aw:Hid (mget lE 4=some (.int .i64 0)):=h! (by kernel_rfl)
 cases hN0:decide (N<0)<;>cases hN1:decide (0<N)<;>cases hv:(val != -1)<;>cases hl:((n:Int) != 0);all_goals
  have H0:=h! hN0;have H1:=h! hN1;have HV:=h! hv;have HL:=h! hl;go_wp2_with (first
   | (at_lookup;refine gO (q:=.i64) (z:=.int .i64 0) (b:=wv.heap.size) (mm:=lE) (y:=4) rfl _ _ _ rfl Tryz.underlying93 Tryz.underlying3 (iQ _) rfl HI.out rfl ?_;rw[aw.out])
   | (go_at_call 105;refine(mK az.out _ _ (uO nb) pV (zT ax.out B2.out _)).mono ?_;rintro e w4 ⟨rfl,ao⟩;have ay:=w! HW ao;clear ao))
  go_ret;have e1:=H0.out;have e2:=H1.out;have e3:(val == -1)= !(val != -1):=by simp[bne]
  have e5:(n == 0)= !((n:Int) != 0):=by rw[show(n == 0)=((n:Int) == 0) by(rw[cH];simp;try omega)];simp[bne]
  rw[HV.out]at e3;rw[HL.out]at e5;first
   | exact⟨by rw[HR.out,pU,e5];(try rw[e3]);simp at e1 e2⊢;try omega,ay.out⟩
   | exact⟨by rw[HR.out,e5];(try rw[e3]);simp at e1 e2⊢;try omega,HW.out⟩
theorem aIA{w:World}{bc:Nat}{op val N:Int}{n:Nat}{at_:Option Addr}{ct:Nat}(hno:op≠1/\op≠2/\op≠3/\op≠4):
  Calls Tryz.prog 182 #[.pointer (some ⟨bc,0,none⟩),.agg #[.int .i64 op,.int .i64 val,.slice at_ n ct,.int .i64 N]] w fun e w'=>e=.returned (.bool false)/\Below w.heap.size w w':=by
 have ap:Hid (mget lE op=none):=h! (by rw[rH];unfold lE;simp;omega);clear hno;have ao:=@run_makeMap Tryz.prog;go_enter Tryz.func182,Tryz.ntmps182;go_upto_region 1 with(fail);have aa:=(Below.refl w.heap.size w).alloc (aC _) (.cells #[.pointer (some ⟨bc,0,none⟩)] 201);have HW:=h! aa;clear aa;have B2:=h! (Box.new w #[.pointer (some ⟨bc,0,none⟩)] 201);have ab:(w.alloc (.cells #[.pointer (some ⟨bc,0,none⟩)] 201)).heap.size=w.heap.size+1:=World.size_alloc _ _;generalize w.alloc (.cells #[.pointer (some ⟨bc,0,none⟩)] 201)=ag at*;have aa:=(Below.refl ag.heap.size ag).alloc (aC _) (.cells #[.int .i64 op,.int .i64 val,.slice at_ n ct,.int .i64 N] 61);replace B2:=h! (B2.later aa);replace HW:=w! HW aa;clear aa;have B3:=h! (Box.new ag #[.int .i64 op,.int .i64 val,.slice at_ n ct,.int .i64 N] 61);rw[ab]at B3;clear ab;generalize ag.alloc (.cells #[.int .i64 op,.int .i64 val,.slice at_ n ct,.int .i64 N] 61)=wv at*;obtain⟨ad,aj,af⟩:=B2.out;obtain⟨ae,ah,ak⟩:=B3.out;have HI:=h! (IMap.new wv);have ai:=h! (Turn.refl [wv.heap.size] (wv.alloc (.map #[] 0)));have HLV:=h! HW.size;have HL3:=h! B3.lt;have HL2:=h! B2.lt;clear ad aj af ae ah ak;go_upto_region 2 with(with_reducible refine gC (q:=.i64) (b:=wv.heap.size) rfl _ _ _ _ (.inr rfl) Tryz.underlying93 Tryz.underlying3 rfl HI.out rfl ?_;intro w2 al _ an;replace HI:=h! al;replace ai:=h! (ai.out.trans an);clear al an);clear ao;replace HI:Hid (IMap w2 wv.heap.size lE):=h! (by rw[<-oD];exact HI);have am:Below wv.heap.size wv (wv.alloc (.map #[] 0)):=(Below.refl _ _).alloc (aC _) _;have ac:Below wv.heap.size wv w2:=am.trans (ai.below (by simp) (fun x hx=>by simp at hx;omega));clear ai am;obtain⟨ad,aj,af⟩:=B2.out;obtain⟨ae,ah,ak⟩:=B3.out;clear ad aj af ae ah ak;replace B2:=h! (B2.later ac);replace B3:=h! (B3.later ac);replace HW:=w! HW ac;clear ac;obtain⟨ad,aj,af⟩:=B2.out;obtain⟨ae,ah,ak⟩:=B3.out;go_wp2_with (at_lookup;refine gO (q:=.i64) (z:=.int .i64 0) (b:=wv.heap.size) (mm:=lE) (y:=op) rfl _ _ _ rfl Tryz.underlying93 Tryz.underlying3 (iQ _) rfl HI.out rfl ?_;rw[ap.out]);go_ret;exact⟨rfl,HW.out⟩
theorem aMU{w:World}{bc bm:Nat}{vp:Value}{ab:Option Addr}{nb cb:Nat}{ar ce:Int}{t:TermD}{at_:Option Addr}{ct:Nat}
  (hb:Box w bc (chk vp (.slice ab nb cb) ar ce bm)) (hs:Ints w (.slice at_ t.to.length ct) t.to):
  Calls Tryz.prog 182 #[.pointer (some ⟨bc,0,none⟩),.agg (aHQ t at_ ct)] w fun e w'=>e=.returned (.bool (jB nb t))/\Below w.heap.size w w':=by
 obtain⟨op,val,to,N⟩:=t;unfold aHQ;by_cases h1:op=1
 ·subst h1;exact aKU hb rfl hs
 ·by_cases h2:op=2
  ·subst h2;exact aKV hb rfl hs
  by_cases h3:op=3
  ·subst h3;exact aKW hb rfl hs
  by_cases h4:op=4
  ·subst h4;exact aKX hb rfl hs
  refine(aIA ⟨h1,h2,h3,h4⟩).mono fun e w' ⟨he,hw⟩=>⟨?_,hw⟩;rw[he];have:jB nb ⟨op,val,to,N⟩=false:=by unfold jB;simp[h1,h2,h3,h4]
  rw[this]
theorem aKY{w:World}:Calls Tryz.prog 183 #[.int .i64 17] w (ShpR 17 w):=by
 go_enter Tryz.func183,Tryz.ntmps183;go_upto_region 1 with(fail);have aj:=(Below.refl w.heap.size w).alloc (aC _) (.cells #[.int .i64 0,.slice none 0 0,.int .i64 0] 238);have HW:=h! aj;clear aj;have B2:=h! (Box.new w #[.int .i64 0,.slice none 0 0,.int .i64 0] 238);generalize w.alloc (.cells #[.int .i64 0,.slice none 0 0,.int .i64 0] 238)=wv at*;obtain⟨aa,ad,ac⟩:=B2.out;go_wp2_with fail;refine(jT 2 1 ⟨by decide,by decide⟩ (by decide)).mono ?_;rintro e w1 ⟨u,rfl,hu,ah⟩;obtain⟨ua,uc,rfl⟩:=hu.ints.form;simp only[aW]at hu⊢;have HU:=h! hu;have HL:=h! aa;clear hu;clear aa ad ac;replace B2:=h! (B2.later ah);replace HW:=w! HW ah;clear ah;obtain⟨aa,ad,ac⟩:=B2.out;go_wp2_with fail;refine(jT 1 2 ⟨by decide,by decide⟩ (by decide)).mono ?_;rintro e w2 ⟨u2,rfl,ag,af⟩;obtain⟨ua2,uc2,rfl⟩:=ag.ints.form;simp only[aW]at ag⊢;have al:=h! ag;clear ag;replace HU:=h! (HU.later af);clear aa ad ac;replace B2:=h! (B2.later af);replace HW:=w! HW af;clear af;obtain⟨aa,ad,ac⟩:=B2.out;have OL:Hid (Own w2 wv.heap.size [w.heap.size] 3 1 (.slice ua 1 uc) 1 [.int .i64 2]):=h! ⟨HU.own,fun g hg hm=>by have:=(HU.fresh g hg).1;have:=HL.out;simp at hm;omega⟩;have HS:=h! HU.own;have ak:wv.heap.size<=w2.heap.size:=by
  rcases HU.own.2 with⟨_,h⟩|⟨g,cap,cur,hv,hg,hh,_⟩
  ·simp at h
  have:=(aQ.1 hh).1;omega
 have HZ:=h! ak;clear ak;go_wp2_with (at_builtin;refine iL rfl _ _ 22 3 rfl oW rfl rfl OL.out al.ints.1 (sJ _) (by unfold maxLen;simp) (by simp) HZ.out (by intro b hb;simp at hb;omega) ?_;intro v3 w3 ae ab ai;obtain⟨a3,c3,rfl⟩:=ae.form;simp only[aW]at ae⊢;have am:=h! ae;have B3:=h! (ab _ _ (by simp) B2.out);have an:=h! (HW.trans (ai.mono (cE HL.out)));clear ae ab ai;obtain⟨l3,c3',f3⟩:=B3.out;clear aa ad ac);have HN:Hid (New 3 wv w3 (.slice a3 3 c3) [2,1,1]):=h! ⟨am.row,by simp,fun x hx=>by simp at hx;rcases hx with rfl|rfl|rfl<;>exact⟨by decide,by decide⟩⟩;exact bodyPost_ret (v:=.tuple #[.agg #[.int .i64 1,.slice a3 3 c3,.int .i64 0],.bool true]) (by simp[results,Tryz.results183,go_sem, *]) rfl
  ⟨_,rfl,(((HN.other _ (.inl HL.out)).other _ (.inl HL.out)).other _ (.inl HL.out)).from (cE HL.out),((an.setCell (by simp) _).setCell (by simp) _).setCell (by simp) _⟩
theorem aKZ{w:World}{op:Int}(h:op<1\/25<op):Calls Tryz.prog 183 #[.int .i64 op] w (ShpR op w):=by
 have HS:=h! (show shp op=none by unfold shp;repeat (rw[if_neg (by omega)]));have e1:(op == 1)=false:=by simp;omega
 have e2:(op == 2)=false:=by simp;omega
 have e13:(op == 13)=false:=by simp;omega
 have e14:(op == 14)=false:=by simp;omega
 have e15:(op == 15)=false:=by simp;omega
 have e16:(op == 16)=false:=by simp;omega
 have e17:(op == 17)=false:=by simp;omega
 have e18:(op == 18)=false:=by simp;omega
 have e19:(op == 19)=false:=by simp;omega
 have e21:(op == 21)=false:=by simp;omega
 have e20:(op == 20)=false:=by simp;omega
 have e22:(op == 22)=false:=by simp;omega
 have e23:(op == 23)=false:=by simp;omega
 have e24:(op == 24)=false:=by simp;omega
 have e25:(op == 25)=false:=by simp;omega
 have r1:(decide (3<=op)&&decide (op<=12))=false:=by simp;omega
 have HR:Hid (decide (3<=op)=false\/(decide (3<=op)=true/\decide (op<=12)=false)):=h! (by simp;omega);clear h r1;rcases HR.out with r1|⟨r1,r2⟩;all_goals
  go_enter Tryz.func183,Tryz.ntmps183;go_upto_region 1 with(fail);have aa:=(Below.refl w.heap.size w).alloc (aC _) (.cells #[.int .i64 0,.slice none 0 0,.int .i64 0] 238);have HW:=h! aa;clear aa;have B2:=h! (Box.new w #[.int .i64 0,.slice none 0 0,.int .i64 0] 238);generalize w.alloc (.cells #[.int .i64 0,.slice none 0 0,.int .i64 0] 238)=wv at*;obtain⟨lB2,cB2,fB2⟩:=B2.out;go_wp2;exact bodyPost_ret (v:=.tuple #[.agg #[.int .i64 0,.slice none 0 0,.int .i64 0],.bool false]) (by simp[results,Tryz.results183,go_sem, *]) rfl
   ⟨.slice none 0 0,by unfold shp0;rw[HS.out];rfl,by unfold shp0;rw[HS.out];exact New.nil,((HW.setCell (by simp) _).setCell (by simp) _).setCell (by simp) _⟩
theorem aFN{w:World}(op:Int):Calls Tryz.prog 183 #[.int .i64 op] w (ShpR op w):=by
 by_cases h:op<1\/25<op
 ·exact aKZ h
 obtain rfl|rfl|rfl|rfl|rfl|rfl|rfl|rfl|rfl|rfl|rfl|rfl|rfl|rfl|rfl|rfl|rfl|rfl|rfl|rfl|rfl|rfl|rfl|rfl|rfl:op=1\/op=2\/op=3\/op=4\/op=5\/op=6\/op=7\/op=8\/op=9\/op=10\/op=11\/op=12\/op=13\/op=14\/op=15\/op=16\/op=17\/op=18\/op=19\/op=20\/op=21\/op=22\/op=23\/op=24\/op=25:=by omega
 ·exact aML
 ·exact aMM
 ·exact aMN
 ·exact aMO
 ·exact aMP
 ·exact aMQ
 ·exact aMR
 ·exact aMS
 ·exact aMT
 ·exact aKP
 ·exact aKQ
 ·exact aKR
 ·exact aKF
 ·exact aKG
 ·exact aKH
 ·exact aKI
 ·exact aKY
 ·exact aKD
 ·exact aKJ
 ·exact aKL
 ·exact aKK
 ·exact aKM
 ·exact aKN
 ·exact aKE
 exact aKO
theorem fS{B:Nat}{a w:World}(h:Below B a w)(n:Nat):Below B a (w.drewN n):=⟨h.os,h.tape,h.output,h.size,h.block⟩
theorem zU{W:World}{v:Value}{bs:List BlockD}(h:fV iI 6 W v bs):∀b∈bs,1<=iB b/\iB b<=35184372088833:=by intro b hb;obtain⟨cs,_,h2⟩:=h;obtain⟨j,hj,rfl⟩:=eJ hb;obtain⟨v,u,t,_,h3,h4,_⟩:=h2 j _ (aA hj);have:=h3.le;have:=h4.le;unfold iB;omega
theorem aFO(l:List Int)(a b:Int)(h:∀x∈l,a<=x/\x<=b):a*l.length<=l.sum/\l.sum<=b*l.length:=by
 induction l with
 | nil=>simp
 | cons x l ih=>
  have h1:=h x (by simp)
  have h2:=ih fun y hy=>h y (by simp[hy])
  simp only[fJ,bI,Int.natCast_add,Int.natCast_one,Int.mul_add,Int.mul_one]
  omega
theorem tQ{W:World}{v:Value}{bs:List BlockD}(h:fV iI 6 W v bs)(j:Nat)(hj:j<=512):0<=((bs.take j).map iB).sum/\((bs.take j).map iB).sum<=18014398509482496:=by have h1:=aFO ((bs.take j).map iB) 1 35184372088833 (fun x hx=>by obtain⟨b,hb,rfl⟩:=aN.1 hx;exact zU h b (dC hb));rw[aZ,bB]at h1;omega
theorem zV(bs:List BlockD)(j:Nat)(x:BlockD)(h:bs[j]? =some x):((bs.take (j+1)).map iB).sum=((bs.take j).map iB).sum+iB x:=by rw[cX,h,Option.toList_some,bG,List.sum_append];simp
theorem aFP{w:World}{bc:Nat}{vb:Value}{bs:List BlockD}(h3:w.cell? ⟨bc,3,none⟩=some vb)(hB:fV iI 6 w vb bs)(hn:bs.length<=512):
  Calls Tryz.prog 179 #[.pointer (some ⟨bc,0,none⟩)] w fun e w'=>e=.returned (.int .i64 ((bs.map iB).sum))/\Below w.heap.size w w':=by
 have ak:=h! hB;obtain⟨a,cap,b,off,rfl,hc,hm,hl,ha,hx⟩:=fW hB;have HA:=h! ha;have HX:=h! hx;clear ha hx hB hl;obtain⟨n,ab⟩:∃n,n=bs.length:=⟨_,rfl⟩;rw[<-ab]at h3 hc hn HA;have HN:=h! ab;clear ab;go_enter Tryz.func179,Tryz.ntmps179;go_wp2;go_loopw [3,12] (fun s i wr=>∃j:Nat,j<=n/\i=.int .i64 j/\s=.int .i64 ((bs.take j).map iB).sum/\Below w.heap.size w wr) (fun _ i _=>n - (intOf i).toNat)
 case atStart=>exact⟨0,aL _,rfl,rfl,Below.refl _ _⟩
 case round=>
  obtain⟨j,hj,rfl,rfl,hW⟩:=hrel;have HW:=h! hW;clear hW;by_cases hlt:j<n
  ·have af:0<n:=by omega
   obtain⟨rfl,ag⟩:=HA.out af;have aa:bs[j]? =some bs[j]:=aA (by have:=HN.out;omega);obtain⟨x,ac⟩:∃x,x=bs[j]'(by have:=HN.out;omega):=⟨_,rfl⟩;rw[<-ac]at aa;clear ac;obtain⟨ap,ai,at_,cp,ci,ct,hC⟩:=HX.out j x aa;obtain⟨c0,c1,c2,c3,c4,c5,h6,h7,h8,h9,ah,aj⟩:=hC.below HW.out ag;have hs0:=tQ ak.out j (by omega);have hl1:=h6.le;have hl2:=h7.le;have ae:=h! (zV bs j x aa);have ad:iB x=x.phis.length+x.code.length+1:=rfl;rw[ad]at ae;clear h6 h7 h8 h9 ah aj hC aa ad;generalize ((bs.take j).map iB).sum=s at*;go_wp2;go_roundw
   case rel=>exact⟨j+1,hlt,by go_num,by rw[ae.out],HW.alloc HW.size _⟩
   simp[intOf];omega
  obtain rfl:j=n:=by omega
  go_wp2;go_ret;rw[aI (by have:=HN.out;omega)];exact⟨rfl,HW.out⟩
end Go.Proofs.YtagabiidbbhhmaaGreat
