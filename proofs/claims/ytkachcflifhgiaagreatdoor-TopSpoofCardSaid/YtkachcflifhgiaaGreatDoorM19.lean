/-     -/
import Derived.Test.YtkachcflifhgiaaGreatDoorM18
import Derived.Laws.BitsLemmas
import Derived.Test.YtkachcflifhgiaaGreatDoorM06
set_option linter.unusedVariables false
set_option maxRecDepth 100000
set_option maxHeartbeats 16000000
namespace Go.Proofs.YtkachcflifhgiaaGreatDoor
open Go Go.RowKit Go.Shelf Go.Proofs
def Gm.GI (e:Int):Option Nat->Int×Int
 | some i=>((i:Int),e)
 | none=>(0,0)
theorem wS {w:World}{V:TV}{T:Gm.Tab}{B g p n c i:Nat}{y:Int}{x:World}{A:Option Addr}{l:List Int}(h:So w V T B g p y x)(hr:Rd w B 1 A n (ints l))(hB:B<=w.heap.size)(hn:n<=1000000)(hi:i<n) :
  (Calls Tryz.prog 294 #[kF V,.slice A n c,.int .i64 i,.int .i64 (-1)] x fun e x'=>e=.returned (.int .i64 (Gm.nextL T l i))/\So w V T B g p y x') /\
  (Calls Tryz.prog 294 #[kF V,.slice A n c,.int .i64 i,.int .i64 1] x fun e x'=>e=.returned (.int .i64 (Gm.oQ T (l.drop (i+1)) (i+1)))/\So w V T B g p y x') /\
  ∀ j side:Int,j<n->-1<=j->Calls Tryz.prog 293 #[kF V,.slice A n c,.int .i64 j,.int .i64 side] x fun e x'=>e=.returned (.bool (Gm.joins T l j side))/\So w V T B g p y x':=by
 have hR:Rd x B 1 A n (ints l):=hr.below (h.fr.bl.mono hB);exact⟨(YL h.fr.tb h.fr.hx A n c l hR hn i (by omega)).mono fun e x' ⟨he,hb⟩=>⟨he,h.step hb⟩,(WH h.fr.tb h.fr.hx A n c l hR hn i hi).mono fun e x' ⟨he,hb⟩=>⟨he,h.step hb⟩,
  fun j side h1 h2=>(Ze h.fr.tb h.fr.hx A n c l hR hn j side h1 h2).mono fun e x' ⟨he,hb⟩=>⟨he,h.step hb⟩⟩
section
variable {w:World} {B:Nat} {V:TV} {T:Gm.Tab}
theorem Zd (h:j_ w B V T)(hB:B<=w.heap.size)(A:Option Addr)(n c:Nat)(l:List Int)(hr:Rd w B 1 A n (ints l))(hn:n<=1000000)(i:Nat)(hi:i<n) :
  Calls Tryz.prog 254 #[kF V,.slice A n c,.int .i64 i] w fun e w'=>e=.returned (.bool (Gm.vg T l i))/\Below w.heap.size w w':=by
 have F0:=jP (Fr.start h hB);have HRW:=jP hr;have HL:=jP (lY hr);have HR0:=jP (hr.alloc hB (.cells (kK V) 26));clear h hr;obtain⟨b,off,x,rfl,hbB,hat,hcell⟩:=jZ HR0.1 hi;have HX:=jP (Gm.getD_at hat);have HAT:=jP hat;have hs0:So w V T B b (off+i) x ((w.alloc (.cells (kK V) 26)).drew):=So.drew ⟨F0.1,by have:=F0.1.hx;omega,hcell⟩;have HJ:=jP (show Gm.vg T l i=if x≠8204/\x≠8205 then true else if 0<i/\Gm.cls T (l.getD (i-1) 0)=9 then true else (decide (x=8204)&&Gm.joins T l (Gm.nextL T l i) 1&&Gm.joins T l (Gm.oQ T (l.drop (i+1)) (i+1)) 2) by
  unfold Gm.vg;rw[HX.1])
 generalize Gm.vg T l i=jo at *;have hi0:(0:Int)<=(i:Int):=by omega
 have hi1:(i:Int)<(n:Int):=by omega
 clear hat;by_cases hx:x≠8204/\x≠8205
 ·have hb1:(x != 8204)=true:=by simpa using hx.1
  have hb2:(x != 8205)=true:=by simpa using hx.2
  have HV:=jP (show jo=true by rw[HJ.1,aj hx]);clear hx hs0;go_enter Tryz.func254,Tryz.ntmps254
  go_wp2_with fail
  go_ret
  exact⟨by rw[HV.1];rfl,F0.1.bl⟩
 ·have lV:=jP (show x=8204\/x=8205 by omega);have HJ2:=jP (show jo=if 0<i/\Gm.cls T (l.getD (i-1) 0)=9 then true else (decide (x=8204)&&Gm.joins T l (Gm.nextL T l i) 1&&Gm.joins T l (Gm.oQ T (l.drop (i+1)) (i+1)) 2) by rw[HJ.1,ah hx]);clear HJ hx HX;go_enter Tryz.func254,Tryz.ntmps254
  rcases lV.1 with rfl | rfl
  ·clear lV;by_cases hz:i=0
   ·have hzi:decide ((0:Int)<(i:Int))=false:=by rw[bW];omega
    have hzj:decide (0<i)=false:=by rw[bW];omega
    have FY:=jP (show jo=(decide ((8204:Int)=8204)&&Gm.joins T l (Gm.nextL T l i) 1&&Gm.joins T l (Gm.oQ T (l.drop (i+1)) (i+1)) 2) by rw[HJ2.1,ah (by omega)];all_goals simp);clear HJ2 hz;go_wp2_with fail
    refine aI (S:=So w V T B b (off+i) 8204) (by kernel_rfl) hs0 (fun hHeld=>?_);refine tk 0 ?_;refine tk 1 ?_;refine tk 2 ?_;refine tu 3 ?_;refine tu 4 ?_;refine tu 5 ?_;refine tu 6 ?_;refine tu 7 ?_;refine tu 8 ?_;refine tu 9 ?_;refine tu 10 ?_;refine tk 11 ?_;refine tk 12 ?_;refine aJ (by kernel_rfl) ?_ _;generalize hw4:(w.alloc (.cells (kK V) 26)).drew=w4 at *;have F4:=jP hs0.fr;clear hw4 hs0 F0 HR0 hcell;go_wp2_with fail
    obtain⟨b',o',x',e2,_,yl,hc2⟩:=jZ (HRW.1.below (F4.1.bl.mono hB)) hi;injection e2 with e2
    injection e2 with e2 e3 _
    subst e2;subst e3;obtain rfl:x'=8204:=by have:=HAT.1;rw[yl] at this;injection this
    have hs5:So w V T B b (off+i) 8204 w4.drew:=So.drew ⟨F4.1,by have:=F4.1.hx;omega,hc2⟩;clear yl hc2;refine aI (S:=So w V T B b (off+i) 8204) (by kernel_rfl) hs5 (fun hHeld=>?_);refine tk 0 ?_;refine tk 1 ?_;refine tk 2 ?_;refine tk 3 ?_;refine tk 4 ?_;refine tk 5 ?_;refine tk 6 ?_;refine tk 7 ?_;refine tk 8 ?_;refine tk 9 ?_;refine tk 10 ?_;refine rc 11 fun K hK=>?_;go_simp
    refine (wS hs5 HRW.1 hB hn hi).1.mono ?_;rintro e w5 ⟨rfl,hs6⟩;try go_wp2_with fail
    refine rk hK hs6 fun hHeld=>?_;clear hK K;have hnl:=Gm.EX T l (i);have zi:=jP ((wS (c:=c) hs6 HRW.1 hB hn hi).2.2 (Gm.nextL T l (i)) 1 (by omega) (by omega));generalize Gm.nextL T l (i)=nl at *;cases hj1:Gm.joins T l nl 1 with
    | false=>
     have HV:=jP (show jo=false by rw[FY.1,hj1];rfl);rw[hj1] at zi;refine rc 12 fun K hK=>?_;go_simp
     refine zi.1.mono ?_;rintro e w7 ⟨rfl,hs7⟩;try go_wp2_with fail
     refine rk hK hs7 fun hHeld=>?_;clear hK K;refine tk 13 ?_;refine tk 14 ?_;refine tu 15 ?_;refine tu 16 ?_;refine tu 17 ?_;refine tu 18 ?_;refine tu 19 ?_;refine tu 20 ?_;refine tu 21 ?_;refine tk 22 ?_;refine tk 23 ?_;refine aJ (by kernel_rfl) ?_ _;have F9:=jP hs7.fr;go_wp2_with fail
     go_ret
     exact⟨by rw[HV.1];rfl,F9.1.bl⟩
    | true=>
     rw[hj1] at zi;refine rc 12 fun K hK=>?_;go_simp
     refine zi.1.mono ?_;rintro e w7 ⟨rfl,hs7⟩;try go_wp2_with fail
     refine rk hK hs7 fun hHeld=>?_;clear hK K;refine tk 13 ?_;refine tk 14 ?_;refine tk 15 ?_;refine tk 16 ?_;refine tk 17 ?_;refine tk 18 ?_;refine tk 19 ?_;refine rc 20 fun K hK=>?_;go_simp
     refine (wS hs7 HRW.1 hB hn hi).2.1.mono ?_;rintro e w8 ⟨rfl,hs8⟩;try go_wp2_with fail
     refine rk hK hs8 fun hHeld=>?_;clear hK K;have hnr:=Gm.EW T (l.drop (i+1)) (i+1);rw[bF] at hnr;have HJ2:=jP ((wS (c:=c) hs8 HRW.1 hB hn hi).2.2 (Gm.oQ T (l.drop (i+1)) (i+1)) 2 (by have:=HL.1;omega) (by omega));generalize Gm.oQ T (l.drop (i+1)) (i+1)=nr at *;have HV:=jP (show jo=Gm.joins T l nr 2 by rw[FY.1,hj1];simp);generalize Gm.joins T l nr 2=jr at *;refine rc 21 fun K hK=>?_;go_simp
     refine HJ2.1.mono ?_;rintro e w9 ⟨rfl,hs9⟩;try go_wp2_with fail
     refine rk hK hs9 fun hHeld=>?_;clear hK K;refine tk 22 ?_;refine tk 23 ?_;refine aJ (by kernel_rfl) ?_ _;have F9:=jP hs9.fr;go_wp2_with fail
     go_ret
     exact⟨by rw[HV.1];rfl,F9.1.bl⟩
   ·obtain⟨q,rfl⟩:∃ q,i=q+1:=⟨i-1,by omega⟩;obtain⟨b',o',y,e2,_,hay,hcy⟩:=jZ HR0.1 (show q<n by omega);injection e2 with e2
    injection e2 with e2 e3 _
    subst e2;subst e3;have hs1:So w V T B b (off+q) y ((w.alloc (.cells (kK V) 26)).drew):=So.drew ⟨F0.1,hs0.lt,hcy⟩;have HY:=jP (show l.getD (q+1-1) 0=y from Gm.getD_at hay);rw[HY.1] at HJ2;have hzi:(0:Int)<(q:Int)+1:=by omega
    have hwq:IntKind.i64.wrap (q:Int)=(q:Int):=aW _ (by omega);have hq0:(0:Int)<=(q:Int):=by omega
    have hq1:(q:Int)<(n:Int):=by omega
    have hq3:(0:Int)<=(q:Int)+1:=by omega
    have hq2:(q:Int)+1<(n:Int):=by omega
    clear hay hcy hs0;go_wp2_with fail
    refine aI (S:=So w V T B b (off+q) y) (by kernel_rfl) hs1 (fun hHeld=>?_);refine tk 0 ?_;refine tk 1 ?_;refine tk 2 ?_;refine tk 3 ?_;refine tk 4 ?_;refine tk 5 ?_;refine tk 6 ?_;refine tk 7 ?_;refine tk 8 ?_;refine rc 9 fun K hK=>?_;go_simp
    refine (EL hs1 y).mono ?_;rintro e w4 ⟨rfl,hb4,hs4⟩;try go_wp2_with fail
    refine rk hK hs4 fun hHeld=>?_;clear hK K;refine tk 10 ?_;refine tk 11 ?_;refine tk 12 ?_;refine aJ (by kernel_rfl) ?_ _;have F4:=jP hs4.fr;clear hs4 hs1 hb4 F0 HR0 hcell;by_cases h9:Gm.cls T y=9
    ·have HV:=jP (show jo=true by rw[HJ2.1,aj ⟨by omega,h9⟩]);rw[h9];clear h9;go_wp2_with fail
     go_ret
     exact⟨by rw[HV.1];rfl,F4.1.bl⟩
    ·have h9b:(Gm.cls T y==9)=false:=by simpa using h9
     have FY:=jP (show jo=(decide ((8204:Int)=8204)&&Gm.joins T l (Gm.nextL T l (q+1)) 1&&Gm.joins T l (Gm.oQ T (l.drop (q+1+1)) (q+1+1)) 2) by rw[HJ2.1,ah (by intro e;exact h9 e.2)];all_goals simp);clear h9 HJ2;go_wp2_with fail
     obtain⟨b',o',x',e2,_,yl,hc2⟩:=jZ (HRW.1.below (F4.1.bl.mono hB)) hi;injection e2 with e2
     injection e2 with e2 e3 _
     subst e2;subst e3;obtain rfl:x'=8204:=by have:=HAT.1;rw[yl] at this;injection this
     have hs5:So w V T B b (off+(q+1)) 8204 w4.drew:=So.drew ⟨F4.1,by have:=F4.1.hx;omega,hc2⟩;clear yl hc2;refine aI (S:=So w V T B b (off+(q+1)) 8204) (by kernel_rfl) hs5 (fun hHeld=>?_);refine tk 0 ?_;refine tk 1 ?_;refine tk 2 ?_;refine tk 3 ?_;refine tk 4 ?_;refine tk 5 ?_;refine tk 6 ?_;refine tk 7 ?_;refine tk 8 ?_;refine tk 9 ?_;refine tk 10 ?_;refine rc 11 fun K hK=>?_;go_simp
     refine (wS hs5 HRW.1 hB hn hi).1.mono ?_;rintro e w5 ⟨rfl,hs6⟩;try go_wp2_with fail
     refine rk hK hs6 fun hHeld=>?_;clear hK K;have hnl:=Gm.EX T l ((q+1));have zi:=jP ((wS (c:=c) hs6 HRW.1 hB hn hi).2.2 (Gm.nextL T l ((q+1))) 1 (by omega) (by omega));generalize Gm.nextL T l ((q+1))=nl at *;cases hj1:Gm.joins T l nl 1 with
     | false=>
      have HV:=jP (show jo=false by rw[FY.1,hj1];rfl);rw[hj1] at zi;refine rc 12 fun K hK=>?_;go_simp
      refine zi.1.mono ?_;rintro e w7 ⟨rfl,hs7⟩;try go_wp2_with fail
      refine rk hK hs7 fun hHeld=>?_;clear hK K;refine tk 13 ?_;refine tk 14 ?_;refine tu 15 ?_;refine tu 16 ?_;refine tu 17 ?_;refine tu 18 ?_;refine tu 19 ?_;refine tu 20 ?_;refine tu 21 ?_;refine tk 22 ?_;refine tk 23 ?_;refine aJ (by kernel_rfl) ?_ _;have F9:=jP hs7.fr;go_wp2_with fail
      go_ret
      exact⟨by rw[HV.1];rfl,F9.1.bl⟩
     | true=>
      rw[hj1] at zi;refine rc 12 fun K hK=>?_;go_simp
      refine zi.1.mono ?_;rintro e w7 ⟨rfl,hs7⟩;try go_wp2_with fail
      refine rk hK hs7 fun hHeld=>?_;clear hK K;refine tk 13 ?_;refine tk 14 ?_;refine tk 15 ?_;refine tk 16 ?_;refine tk 17 ?_;refine tk 18 ?_;refine tk 19 ?_;refine rc 20 fun K hK=>?_;go_simp
      refine (wS hs7 HRW.1 hB hn hi).2.1.mono ?_;rintro e w8 ⟨rfl,hs8⟩;try go_wp2_with fail
      refine rk hK hs8 fun hHeld=>?_;clear hK K;have hnr:=Gm.EW T (l.drop (q+1+1)) (q+1+1);rw[bF] at hnr;have HJ2:=jP ((wS (c:=c) hs8 HRW.1 hB hn hi).2.2 (Gm.oQ T (l.drop (q+1+1)) (q+1+1)) 2 (by have:=HL.1;omega) (by omega));generalize Gm.oQ T (l.drop (q+1+1)) (q+1+1)=nr at *;have HV:=jP (show jo=Gm.joins T l nr 2 by rw[FY.1,hj1];simp);generalize Gm.joins T l nr 2=jr at *;refine rc 21 fun K hK=>?_;go_simp
      refine HJ2.1.mono ?_;rintro e w9 ⟨rfl,hs9⟩;try go_wp2_with fail
      refine rk hK hs9 fun hHeld=>?_;clear hK K;refine tk 22 ?_;refine tk 23 ?_;refine aJ (by kernel_rfl) ?_ _;have F9:=jP hs9.fr;go_wp2_with fail
      go_ret
      exact⟨by rw[HV.1];rfl,F9.1.bl⟩
  ·clear lV;by_cases hz:i=0
   ·have hzi:decide ((0:Int)<(i:Int))=false:=by rw[bW];omega
    have hzj:decide (0<i)=false:=by rw[bW];omega
    have FY:=jP (show jo=(decide ((8205:Int)=8204)&&Gm.joins T l (Gm.nextL T l i) 1&&Gm.joins T l (Gm.oQ T (l.drop (i+1)) (i+1)) 2) by rw[HJ2.1,ah (by omega)];all_goals simp);clear HJ2 hz;go_wp2_with fail
    refine aI (S:=So w V T B b (off+i) 8205) (by kernel_rfl) hs0 (fun hHeld=>?_);refine tk 0 ?_;refine tk 1 ?_;refine tk 2 ?_;refine tu 3 ?_;refine tu 4 ?_;refine tu 5 ?_;refine tu 6 ?_;refine tu 7 ?_;refine tu 8 ?_;refine tu 9 ?_;refine tu 10 ?_;refine tk 11 ?_;refine tk 12 ?_;refine aJ (by kernel_rfl) ?_ _;generalize hw4:(w.alloc (.cells (kK V) 26)).drew=w4 at *;have F4:=jP hs0.fr;clear hw4 hs0 F0 HR0 hcell;go_wp2_with fail
    obtain⟨b',o',x',e2,_,yl,hc2⟩:=jZ (HRW.1.below (F4.1.bl.mono hB)) hi;injection e2 with e2
    injection e2 with e2 e3 _
    subst e2;subst e3;obtain rfl:x'=8205:=by have:=HAT.1;rw[yl] at this;injection this
    have hs5:So w V T B b (off+i) 8205 w4.drew:=So.drew ⟨F4.1,by have:=F4.1.hx;omega,hc2⟩;clear yl hc2;refine aI (S:=So w V T B b (off+i) 8205) (by kernel_rfl) hs5 (fun hHeld=>?_);have HV:=jP (show jo=false by rw[FY.1];rfl);refine tk 0 ?_;refine tk 1 ?_;refine tk 2 ?_;refine tk 3 ?_;refine tk 4 ?_;refine tk 5 ?_;refine tu 6 ?_;refine tu 7 ?_;refine tu 8 ?_;refine tu 9 ?_;refine tu 10 ?_;refine tu 11 ?_;refine tu 12 ?_;refine tk 13 ?_;refine tk 14 ?_;refine tu 15 ?_;refine tu 16 ?_;refine tu 17 ?_;refine tu 18 ?_;refine tu 19 ?_;refine tu 20 ?_;refine tu 21 ?_;refine tk 22 ?_;refine tk 23 ?_;refine aJ (by kernel_rfl) ?_ _;go_wp2_with fail
    go_ret
    exact⟨by rw[HV.1];rfl,hs5.fr.bl⟩
   ·obtain⟨q,rfl⟩:∃ q,i=q+1:=⟨i-1,by omega⟩;obtain⟨b',o',y,e2,_,hay,hcy⟩:=jZ HR0.1 (show q<n by omega);injection e2 with e2
    injection e2 with e2 e3 _
    subst e2;subst e3;have hs1:So w V T B b (off+q) y ((w.alloc (.cells (kK V) 26)).drew):=So.drew ⟨F0.1,hs0.lt,hcy⟩;have HY:=jP (show l.getD (q+1-1) 0=y from Gm.getD_at hay);rw[HY.1] at HJ2;have hzi:(0:Int)<(q:Int)+1:=by omega
    have hwq:IntKind.i64.wrap (q:Int)=(q:Int):=aW _ (by omega);have hq0:(0:Int)<=(q:Int):=by omega
    have hq1:(q:Int)<(n:Int):=by omega
    have hq3:(0:Int)<=(q:Int)+1:=by omega
    have hq2:(q:Int)+1<(n:Int):=by omega
    clear hay hcy hs0;go_wp2_with fail
    refine aI (S:=So w V T B b (off+q) y) (by kernel_rfl) hs1 (fun hHeld=>?_);refine tk 0 ?_;refine tk 1 ?_;refine tk 2 ?_;refine tk 3 ?_;refine tk 4 ?_;refine tk 5 ?_;refine tk 6 ?_;refine tk 7 ?_;refine tk 8 ?_;refine rc 9 fun K hK=>?_;go_simp
    refine (EL hs1 y).mono ?_;rintro e w4 ⟨rfl,hb4,hs4⟩;try go_wp2_with fail
    refine rk hK hs4 fun hHeld=>?_;clear hK K;refine tk 10 ?_;refine tk 11 ?_;refine tk 12 ?_;refine aJ (by kernel_rfl) ?_ _;have F4:=jP hs4.fr;clear hs4 hs1 hb4 F0 HR0 hcell;by_cases h9:Gm.cls T y=9
    ·have HV:=jP (show jo=true by rw[HJ2.1,aj ⟨by omega,h9⟩]);rw[h9];clear h9;go_wp2_with fail
     go_ret
     exact⟨by rw[HV.1];rfl,F4.1.bl⟩
    ·have h9b:(Gm.cls T y==9)=false:=by simpa using h9
     have FY:=jP (show jo=(decide ((8205:Int)=8204)&&Gm.joins T l (Gm.nextL T l (q+1)) 1&&Gm.joins T l (Gm.oQ T (l.drop (q+1+1)) (q+1+1)) 2) by rw[HJ2.1,ah (by intro e;exact h9 e.2)];all_goals simp);clear h9 HJ2;go_wp2_with fail
     obtain⟨b',o',x',e2,_,yl,hc2⟩:=jZ (HRW.1.below (F4.1.bl.mono hB)) hi;injection e2 with e2
     injection e2 with e2 e3 _
     subst e2;subst e3;obtain rfl:x'=8205:=by have:=HAT.1;rw[yl] at this;injection this
     have hs5:So w V T B b (off+(q+1)) 8205 w4.drew:=So.drew ⟨F4.1,by have:=F4.1.hx;omega,hc2⟩;clear yl hc2;refine aI (S:=So w V T B b (off+(q+1)) 8205) (by kernel_rfl) hs5 (fun hHeld=>?_);have HV:=jP (show jo=false by rw[FY.1];rfl);refine tk 0 ?_;refine tk 1 ?_;refine tk 2 ?_;refine tk 3 ?_;refine tk 4 ?_;refine tk 5 ?_;refine tu 6 ?_;refine tu 7 ?_;refine tu 8 ?_;refine tu 9 ?_;refine tu 10 ?_;refine tu 11 ?_;refine tu 12 ?_;refine tk 13 ?_;refine tk 14 ?_;refine tu 15 ?_;refine tu 16 ?_;refine tu 17 ?_;refine tu 18 ?_;refine tu 19 ?_;refine tu 20 ?_;refine tu 21 ?_;refine tk 22 ?_;refine tk 23 ?_;refine aJ (by kernel_rfl) ?_ _;go_wp2_with fail
     go_ret
     exact⟨by rw[HV.1];rfl,hs5.fr.bl⟩
theorem WX (h:j_ w B V T)(hB:B<=w.heap.size)(A:Option Addr)(n c:Nat)(l:List Int)(hr:Rd w B 1 A n (ints l))(hn:n<=1000000) :
  Calls Tryz.prog 207 #[kF V,.slice A n c] w fun e w'=>e=.returned (.tuple #[.int .i64 (Gm.oq T l).1,.int .i64 (Gm.oq T l).2])/\Below w.heap.size w w':=by
 have F0:=jP (Fr.start h hB);have HR0:=jP (hr.alloc hB (.cells (kK V) 26));have HL:=jP (lY hr);have HN:=jP (show Gm.oq T l=if Gm.kE l≠0 then (0,Gm.kE l) else Gm.GI 17 (Gm.l9 (Gm.vg T l) l.length 0) from by unfold Gm.oq;split;rfl;generalize Gm.l9 (Gm.vg T l) l.length 0=R;cases R<;>rfl);have HO:=jP (show (Gm.order T l).2=Gm.kE l by unfold Gm.order;split<;>simp_all);clear h hB hr;generalize Gm.oq T l=nf at *;obtain⟨x0,x1,x2,x3,x4,x5,x6,x7,x8,x9,x10,x11⟩:=F0.1.cells;go_enter Tryz.func207,Tryz.ntmps207
 go_wp2_with fail
 clear x0 x1 x2 x3 x4 x5 x6 x7 x8 x9 x10 x11;refine (rq F0.1.tb F0.1.hx A n c l HR0.1 hn).mono ?_;rw[HO.1];rintro e w1 ⟨A1,c1,rfl,_,hb1⟩;have F1:=jP (F0.1.step hb1);have HR1:=jP (HR0.1.below (hb1.mono F0.1.hx));clear hb1 F0 HR0;generalize (Gm.order T l).1.length=n1 at *;by_cases h0:Gm.kE l=0
 ·generalize hR:Gm.l9 (Gm.vg T l) l.length 0=R at *;have HV:=jP (show nf=Gm.GI 17 R by rw[HN.1,ah (by simpa using h0)]);have R_:=jP (show Gm.l9 (Gm.vg T l) (n-0) 0=R by rw[Nat.sub_zero,<-HL.1];exact hR);rw[h0];clear HN h0 hR;go_wp2_with fail
  go_loopw [20] (fun vi wr=>∃ k:Nat,k<=n/\vi=.int .i64 k/\Gm.l9 (Gm.vg T l) (n-k) k=R/\Below w1.heap.size w1 wr) (fun vi _=>n-(intOf vi).toNat)
  case atStart=>exact⟨0,by omega,rfl,R_.1,ai _ _⟩
  case round=>
   obtain⟨k,hk,rfl,hg,hb⟩:=hrel;have HI:=jP hb;have HG:=jP hg;have F3:=jP (F1.1.step hb);clear hb hg;by_cases hlt:k<n
   ·obtain⟨hg1,hg2⟩:=Gm.GH hlt HG.1;have vN:=jP hg1;have HG2:=jP hg2;obtain⟨x0,x1,x2,x3,x4,x5,x6,x7,x8,x9,x10,x11⟩:=F3.1.cells;have HC:=jP (Zd F3.1.tb F3.1.hx A n c l (HR1.1.below (HI.1.mono F1.1.hx)) hn k hlt);clear hg1 hg2 HG;generalize Gm.vg T l k=ok at *;go_wp2_with fail
    clear x0 x1 x2 x3 x4 x5 x6 x7 x8 x9 x10 x11;refine HC.1.mono ?_;rintro e w5 ⟨rfl,hb5⟩;have kY:=jP (HI.1.trans (hb5.mono HI.1.size));have F5:=jP (F3.1.step hb5);clear hb5 HC F3 HI;cases ok with
    | true=>
     have HE:=jP (vN.1 rfl);clear vN HG2;go_wp2_with fail
     go_roundw
     case rel=>exact⟨k+1,by omega,by go_num,HE.1,kY.1⟩
     case measure=>simp[intOf];try omega
    | false=>
     have HE:=jP (show nf=((k:Int),17) by rw[HV.1,HG2.1 rfl];rfl);clear vN HG2;go_wp2_with fail
     go_ret2
     rw[HE.1];exact⟨rfl,F5.1.bl⟩
   ·obtain rfl:k=n:=by omega
    have HE:=jP (show nf=(0,0) by
     have h1:=HG.1;rw[gY] at h1;rw[HV.1,<-h1];rfl)
    go_wp2_with fail
    go_ret2
    rw[HE.1];exact⟨rfl,F3.1.bl⟩
 ·have HV:=jP (show nf=(0,Gm.kE l) by rw[HN.1,aj h0]);have hb:(Gm.kE l != 0)=true:=by simpa using h0
  clear HN h0;go_wp2_with fail
  go_ret2
  rw[HV.1];exact⟨rfl,F1.1.bl⟩
end
theorem agy {w:World}{V:TV}{T:Gm.Tab}{B g p:Nat}{y:Int}{x:World}(h:So w V T B g p y x)(c:Int):Calls Tryz.prog 301 #[kF V,.int .i64 c] x fun e x'=>e=.returned (.int .i64 (Gm.scr T c))/\Below x.heap.size x x'/\So w V T B g p y x':=
 (KQ h.fr.tb h.fr.hx c).mono fun e x' ⟨he,hb⟩=>⟨he,hb,h.step hb⟩
theorem Q_ (c:Int)(w:World):Calls Tryz.prog 298 #[.int .i64 c] w fun e w'=>e=.returned (.bool (Gm.C9 c))/\Below w.heap.size w w':=by
 have HV:=jP (show Gm.C9 c=(decide (1632<=c)&&decide (c<=1641)) from rfl);generalize Gm.C9 c=jo at *;by_cases h:1632<=c
 ·have HW:=jP (show jo=decide (c<=1641) by rw[HV.1];simp[h]);go_enter Tryz.func298,Tryz.ntmps298
  go_wp2_with fail
  go_ret
  exact⟨by rw[HW.1];rfl,ai _ _⟩
 ·have HW:=jP (show jo=false by rw[HV.1,Bool.and_eq_false_iff];left;simpa using h);go_enter Tryz.func298,Tryz.ntmps298
  go_wp2_with fail
  go_ret
  exact⟨by rw[HW.1];rfl,ai _ _⟩
theorem QA (c:Int)(w:World):Calls Tryz.prog 299 #[.int .i64 c] w fun e w'=>e=.returned (.bool (Gm.CX c))/\Below w.heap.size w w':=by
 have HV:=jP (show Gm.CX c=(decide (1776<=c)&&decide (c<=1785)) from rfl);generalize Gm.CX c=jo at *;by_cases h:1776<=c
 ·have HW:=jP (show jo=decide (c<=1785) by rw[HV.1];simp[h]);go_enter Tryz.func299,Tryz.ntmps299
  go_wp2_with fail
  go_ret
  exact⟨by rw[HW.1];rfl,ai _ _⟩
 ·have HW:=jP (show jo=false by rw[HV.1,Bool.and_eq_false_iff];left;simpa using h);go_enter Tryz.func299,Tryz.ntmps299
  go_wp2_with fail
  go_ret
  exact⟨by rw[HW.1];rfl,ai _ _⟩
section
variable {w:World} {B:Nat} {V:TV} {T:Gm.Tab}
theorem abX (h:j_ w B V T)(hB:B<=w.heap.size)(c:Int):Calls Tryz.prog 297 #[kF V,.int .i64 c] w fun e w'=>e=.returned (.bool (Gm.DW T c))/\Below w.heap.size w w':=by
 have F0:=jP (Fr.start h hB);clear h hB;have HJ:=jP (show Gm.DW T c=decide (Gm.scr T c=7\/Gm.scr T c=8\/Gm.scr T c=6) from rfl);generalize Gm.DW T c=jo at *;obtain⟨x0,x1,x2,x3,x4,x5,x6,x7,x8,x9,x10,x11⟩:=F0.1.cells;go_enter Tryz.func297,Tryz.ntmps297
 go_wp2_with fail
 clear x0 x1 x2 x3 x4 x5 x6 x7 x8 x9 x10 x11;refine (KQ F0.1.tb F0.1.hx c).mono ?_;rintro e w1 ⟨rfl,hb1⟩;have F1:=jP (F0.1.step hb1);clear hb1 F0;generalize Gm.scr T c=s at *;by_cases h7:s=7
 ·subst h7;have HV:=jP (show jo=true by rw[HJ.1];decide);go_wp2_with fail
  go_ret
  exact⟨by rw[HV.1];rfl,F1.1.bl⟩
 ·have b7:(s==7)=false:=by simpa using h7
  by_cases h8:s=8
  ·subst h8;have HV:=jP (show jo=true by rw[HJ.1];decide);go_wp2_with fail
   go_ret
   exact⟨by rw[HV.1];rfl,F1.1.bl⟩
  ·have b8:(s==8)=false:=by simpa using h8
   by_cases h6:s=6
   ·subst h6;have HV:=jP (show jo=true by rw[HJ.1];decide);go_wp2_with fail
    go_ret
    exact⟨by rw[HV.1];rfl,F1.1.bl⟩
   ·have b6:(s==6)=false:=by simpa using h6
    have HV:=jP (show jo=false by rw[HJ.1,bW];omega);clear h7 h8 h6;go_wp2_with fail
    go_ret
    exact⟨by rw[HV.1];rfl,F1.1.bl⟩
theorem abW (V:TV)(g:Nat)(h:j_ w B V T)(hB:B<=w.heap.size)(hg:Bk w g 26 (kK V))(c:Int):Calls Tryz.prog 296 (#[.int .i64 c]++#[.pointer (some ⟨g,0,none⟩)]) w fun e w'=>e=.returned (.bool (Gm.DW T c))/\Below w.heap.size w w':=by
 have HC:=jP (abX h hB c);clear h;generalize Gm.DW T c=jo at *;obtain⟨x0,x1,x2,x3,x4,x5,x6,x7,x8,x9,x10,x11⟩:=rD hg;clear hg;go_enter Tryz.func296,Tryz.ntmps296
 go_wp2_with fail
 clear x0 x1 x2 x3 x4 x5 x6 x7 x8 x9 x10 x11;refine HC.1.mono ?_;rintro e w1 ⟨rfl,hb1⟩;have HB1:=jP hb1;clear hb1;go_wp2_with fail
 go_ret
 exact⟨rfl,HB1.1⟩
theorem Lr (h:j_ w B V T)(hB:B<=w.heap.size)(A:Option Addr)(n c:Nat)(l:List Int)(hr:Rd w B 1 A n (ints l))(hn:n<=1000000)(i s:Int)(hi:i<=n)(hi0:-1<=i) :
  Calls Tryz.prog 295 #[kF V,.slice A n c,.int .i64 i,.int .i64 s] w fun e w'=>e=.returned (.bool (Gm.D6 T l i s))/\Below w.heap.size w w':=by
 have F0:=jP (Fr.start h hB);have HR0:=jP (hr.alloc hB (.cells (kK V) 26));have HL:=jP (lY hr);have HJ:=jP (show Gm.D6 T l i s=(decide (0<=i/\i<l.length)&&decide (Gm.scr T (l.getD i.toNat 0)=s)) from rfl);clear h hr;generalize Gm.D6 T l i s=jo at *;by_cases hneg:i<0
 ·obtain rfl:i=-1:=by omega
  have HV:=jP (show jo=false by rw[HJ.1];simp);go_enter Tryz.func295,Tryz.ntmps295
  go_wp2_with fail
  refine aI (S:=Fr w V T B) (by kernel_rfl) F0.1.drew (fun hHeld=>?_);refine tk 0 ?_;refine tk 1 ?_;refine tk 2 ?_;refine tu 3 ?_;refine tu 4 ?_;refine tu 5 ?_;refine tu 6 ?_;refine tk 7 ?_;refine tk 8 ?_;refine tu 9 ?_;refine tu 10 ?_;refine tu 11 ?_;refine tu 12 ?_;refine tu 13 ?_;refine tu 14 ?_;refine tu 15 ?_;refine tu 16 ?_;refine tk 17 ?_;refine tk 18 ?_;refine aJ (by kernel_rfl) ?_ _;go_wp2_with fail
  go_ret
  exact⟨by rw[HV.1];rfl,F0.1.drew.bl⟩
 ·obtain⟨k,rfl⟩:∃ k:Nat,i=(k:Int):=⟨i.toNat,by omega⟩;have hk0:(0:Int)<=(k:Int):=by omega
  by_cases hkn:k<n
  ·obtain⟨b,off,x,rfl,hbB,hat,hcell⟩:=jZ HR0.1 hkn;have HJ2:=jP (show jo=decide (Gm.scr T x=s) by rw[HJ.1,bU,Gm.getD_at hat,bT (by have:=HL.1;omega),je]);have hs0:So w V T B b (off+k) x ((w.alloc (.cells (kK V) 26)).drew):=So.drew ⟨F0.1,by have:=F0.1.hx;omega,hcell⟩;have hk1:(k:Int)<(n:Int):=by omega
   have hkb:decide (k<n)=true:=by simpa using hkn
   clear hat hcell hi0 hneg HJ;go_enter Tryz.func295,Tryz.ntmps295
   go_wp2_with fail
   refine aI (S:=So w V T B b (off+k) x) (by kernel_rfl) hs0 (fun hHeld=>?_);refine tk 0 ?_;refine tk 1 ?_;refine tk 2 ?_;refine tk 3 ?_;refine tk 4 ?_;refine tk 5 ?_;refine tk 6 ?_;refine tk 7 ?_;refine tk 8 ?_;refine tk 9 ?_;refine tk 10 ?_;refine tk 11 ?_;refine tk 12 ?_;refine tk 13 ?_;refine tk 15 ?_;refine rc 14 fun K hK=>?_;go_simp
   refine (agy hs0 x).mono ?_;rintro e w3 ⟨rfl,hb3,hs3⟩;try go_wp2_with fail
   refine rk hK hs3 fun hHeld=>?_;clear hK K;refine tk 16 ?_;refine tk 17 ?_;refine tk 18 ?_;refine aJ (by kernel_rfl) ?_ _;have F4:=jP hs3.fr;clear hs0 hs3 hb3 F0 HR0;generalize Gm.scr T x=q at *;have HV:=jP (show jo=(q==s) by rw[HJ2.1];by_cases e:q=s<;>simp[e]);go_wp2_with fail
   go_ret
   exact⟨by rw[HV.1];rfl,F4.1.bl⟩
  ·have HV:=jP (show jo=false by rw[HJ.1,bD (by have:=HL.1;omega),Bool.false_and]);have hkb:decide (k<n)=false:=by simpa using hkn
   have hk1:decide ((k:Int)<(n:Int))=false:=by simp;omega
   clear hneg hi0 hi;go_enter Tryz.func295,Tryz.ntmps295
   go_wp2_with fail
   refine aI (S:=Fr w V T B) (by kernel_rfl) F0.1.drew (fun hHeld=>?_);refine tk 0 ?_;refine tk 1 ?_;refine tk 2 ?_;refine tk 3 ?_;refine tk 4 ?_;refine tk 5 ?_;refine tk 6 ?_;refine tk 7 ?_;refine tk 8 ?_;refine tu 9 ?_;refine tu 10 ?_;refine tu 11 ?_;refine tu 12 ?_;refine tu 13 ?_;refine tu 14 ?_;refine tu 15 ?_;refine tu 16 ?_;refine tk 17 ?_;refine tk 18 ?_;refine aJ (by kernel_rfl) ?_ _;go_wp2_with fail
   go_ret
   exact⟨by rw[HV.1];rfl,F0.1.drew.bl⟩
theorem Z7 (h:j_ w B V T)(hB:B<=w.heap.size)(A:Option Addr)(n c:Nat)(l:List Int)(hr:Rd w B 1 A n (ints l))(hn:n<=1000000)(i:Nat)(hi:i<n) :
  Calls Tryz.prog 255 #[kF V,.slice A n c,.int .i64 i] w fun e w'=>e=.returned (.bool (Gm.xA T l i))/\Below w.heap.size w w':=by
 have F0:=jP (Fr.start h hB);have HL:=jP (lY hr);have HR0:=jP (hr.alloc hB (.cells (kK V) 26));clear h hr;obtain⟨b,off,x,rfl,hbB,hat,hcell⟩:=jZ HR0.1 hi;have HJ:=jP (show Gm.xA T l i=if x=183 then decide (0<i/\(i:Int)<l.length-1)&&decide (l.getD (i-1) 0=108)&&decide (l.getD (i+1) 0=108) else if x=885 then Gm.D6 T l ((i:Int)+1) 4 else if x=1523\/x=1524 then Gm.D6 T l ((i:Int)-1) 11 else if x=12539 then l.any (Gm.DW T) else if Gm.C9 x=true then !(l.any Gm.CX) else if Gm.CX x=true then !(l.any Gm.C9) else true by
  unfold Gm.xA;rw[Gm.getD_at hat])
 generalize Gm.xA T l i=jo at *;have hi0:(0:Int)<=(i:Int):=by omega
 have hi1:(i:Int)<(n:Int):=by omega
 clear hat;obtain⟨x0,x1,x2,x3,x4,x5,x6,x7,x8,x9,x10,x11⟩:=F0.1.cells;have hfx:=F0.1.hx;go_enter Tryz.func255,Tryz.ntmps255
 by_cases h1:x=183
 ·subst h1;have HJ2:=jP (show jo=(decide (0<i/\(i:Int)<l.length-1)&&decide (l.getD (i-1) 0=108)&&decide (l.getD (i+1) 0=108)) by rw[HJ.1,aj rfl]);clear HJ x0 x1 x2 x3 x4 x5 x6 x7 x8 x9 x10 x11;by_cases hz:i=0
  ·have HV:=jP (show jo=false by rw[HJ2.1,bD (by omega)];rfl);have hzi:decide ((0:Int)<(i:Int))=false:=by rw[bW];omega
   have hzj:decide (0<i)=false:=by rw[bW];omega
   clear hz HJ2;go_wp2_with fail
   go_ret
   exact⟨by rw[HV.1];rfl,F0.1.bl⟩
  ·obtain⟨q,rfl⟩:∃ q,i=q+1:=⟨i-1,by omega⟩;have hwn:IntKind.i64.wrap ((n:Int)-1)=(n:Int)-1:=aW _ (by omega);have hwq:IntKind.i64.wrap (q:Int)=(q:Int):=aW _ (by omega);have hwr:IntKind.i64.wrap ((q:Int)+1+1)=(q:Int)+1+1:=aW _ (by omega);have hq0:(0:Int)<=(q:Int):=by omega
   have hqp:(0:Int)<(q:Int)+1:=by omega
   by_cases hq2:q+2<n
   ·have hlt:(q:Int)+1<(n:Int)-1:=by omega
    obtain⟨b1,o1,y,e1,_,hay,hcy⟩:=jZ HR0.1 (show q<n by omega);injection e1 with e1
    injection e1 with e1 e2 _
    subst e1;subst e2;obtain⟨b1,o1,z,e1,_,haz,hcz⟩:=jZ HR0.1 (show q+1+1<n by omega);injection e1 with e1
    injection e1 with e1 e2 _
    subst e1;subst e2;have HK:=jP (show jo=(decide (y=108)&&decide (z=108)) by
     rw[HJ2.1,bT (by have:=HL.1;omega),show q+1-1=q by omega,Gm.getD_at hay,Gm.getD_at haz,je])
    have hq1:(q:Int)<(n:Int):=by omega
    have hq3:(0:Int)<=(q:Int)+1+1:=by omega
    have hq4:(q:Int)+1+1<(n:Int):=by omega
    clear hay haz HJ2;by_cases hy:y=108
    ·subst hy;have HV:=jP (show jo=(z==108) by rw[HK.1];by_cases e:z=108<;>simp[e]);clear HK;go_wp2_with fail
     go_ret
     exact⟨by rw[HV.1];rfl,F0.1.bl⟩
    ·have hyb:(y==108)=false:=by simpa using hy
     have HV:=jP (show jo=false by rw[HK.1,bD hy,Bool.false_and]);clear HK hy;go_wp2_with fail
     go_ret
     exact⟨by rw[HV.1];rfl,F0.1.bl⟩
   ·have hlt:decide ((q:Int)+1<(n:Int)-1)=false:=by rw[bW];omega
    have HV:=jP (show jo=false by rw[HJ2.1,bD (by have:=HL.1;omega)];rfl);clear HJ2 hq2;go_wp2_with fail
    go_ret
    exact⟨by rw[HV.1];rfl,F0.1.bl⟩
 ·have b1:(x==183)=false:=by simpa using h1
  by_cases h2:x=885
  ·subst h2;have HV:=jP (show jo=Gm.D6 T l ((i:Int)+1) 4 by rw[HJ.1,ah (by decide),aj rfl]);have hwi:IntKind.i64.wrap ((i:Int)+1)=(i:Int)+1:=aW _ (by omega);clear HJ h1;go_wp2_with fail
   clear x0 x1 x2 x3 x4 x5 x6 x7 x8 x9 x10 x11;refine (Lr F0.1.tb F0.1.hx _ n c l HR0.1 hn ((i:Int)+1) 4 (by omega) (by omega)).mono ?_;rintro e w9 ⟨rfl,nK⟩;have F9:=jP (F0.1.step nK);clear nK;go_wp2_with fail
   go_ret
   exact⟨by rw[HV.1];rfl,F9.1.bl⟩
  ·have b2:(x==885)=false:=by simpa using h2
   by_cases h3:x=1523\/x=1524
   ·have HV:=jP (show jo=Gm.D6 T l ((i:Int)-1) 11 by rw[HJ.1,ah h1,ah h2,aj h3]);have hwi:IntKind.i64.wrap ((i:Int)-1)=(i:Int)-1:=aW _ (by omega);clear HJ;rcases h3 with rfl | rfl
    ·clear h1 h2;go_wp2_with fail
     clear x0 x1 x2 x3 x4 x5 x6 x7 x8 x9 x10 x11;refine (Lr F0.1.tb F0.1.hx _ n c l HR0.1 hn ((i:Int)-1) 11 (by omega) (by omega)).mono ?_;rintro e w9 ⟨rfl,nK⟩;have F9:=jP (F0.1.step nK);clear nK;go_wp2_with fail
     go_ret
     exact⟨by rw[HV.1];rfl,F9.1.bl⟩
    ·clear h1 h2;go_wp2_with fail
     clear x0 x1 x2 x3 x4 x5 x6 x7 x8 x9 x10 x11;refine (Lr F0.1.tb F0.1.hx _ n c l HR0.1 hn ((i:Int)-1) 11 (by omega) (by omega)).mono ?_;rintro e w9 ⟨rfl,nK⟩;have F9:=jP (F0.1.step nK);clear nK;go_wp2_with fail
     go_ret
     exact⟨by rw[HV.1];rfl,F9.1.bl⟩
   ·have b3:(x==1523)=false:=by simpa using (show ¬x=1523 by omega)
    have b4:(x==1524)=false:=by simpa using (show ¬x=1524 by omega)
    by_cases h5:x=12539
    ·subst h5;have HV:=jP (show jo=l.any (Gm.DW T) by rw[HJ.1,ah h1,ah h2,ah h3,aj rfl]);clear HJ h1 h2 h3;go_wp2_with fail
     clear x0 x1 x2 x3 x4 x5 x6 x7 x8 x9 x10 x11;refine (BZ 296 #[.pointer (some ⟨w.heap.size,0,none⟩)] (Gm.DW T) (fA Tryz.func296 (by kernel_rfl) rfl) _ n c l B _ HR0.1 F0.1.hx hn (fun W y hW=>abW V w.heap.size (F0.1.step hW).tb (F0.1.step hW).hx (F0.1.step hW).bx y)).mono ?_;rintro e w9 ⟨rfl,nK⟩;have F9:=jP (F0.1.step nK);clear nK;go_wp2_with fail
     go_ret
     exact⟨by rw[HV.1];rfl,F9.1.bl⟩
    ·have b5:(x==12539)=false:=by simpa using h5
     have HA:=jP (Q_ x (w.alloc (.cells (kK V) 26)));cases ha:Gm.C9 x with
     | true=>
      have HV:=jP (show jo=!(l.any Gm.CX) by rw[HJ.1,ah h1,ah h2,ah h3,ah h5,aj ha]);rw[ha] at HA;clear HJ h1 h2 h3 h5 ha;clear x0 x1 x2 x3 x4 x5 x6 x7 x8 x9 x10 x11;go_wp2_with fail
      refine HA.1.mono ?_;rintro e w3 ⟨rfl,hb3⟩;have F1:=jP (F0.1.step hb3);have HR1:=jP (HR0.1.below (hb3.mono F0.1.hx));clear hb3 HA;go_wp2_with fail
      refine (BZ 299 #[] Gm.CX (fA Tryz.func299 (by kernel_rfl) rfl) _ n c l B _ HR1.1 F1.1.hx hn (fun W y _=>QA y W)).mono ?_;rintro e w9 ⟨rfl,nK⟩;have F9:=jP (F1.1.step nK);clear nK;go_wp2_with fail
      go_ret
      exact⟨by rw[HV.1];rfl,F9.1.bl⟩
     | false=>
      rw[ha] at HA;have HE:=jP (fun W=>QA x W);cases he:Gm.CX x with
      | true=>
       have HV:=jP (show jo=!(l.any Gm.C9) by rw[HJ.1,ah h1,ah h2,ah h3,ah h5,ah (by simp[ha]),aj he]);rw[he] at HE;clear HJ h1 h2 h3 h5 ha he;clear x0 x1 x2 x3 x4 x5 x6 x7 x8 x9 x10 x11;go_wp2_with fail
       refine HA.1.mono ?_;rintro e w3 ⟨rfl,hb3⟩;have F2:=jP (F0.1.step hb3);have HR2:=jP (HR0.1.below (hb3.mono F0.1.hx));clear hb3 HA;go_wp2_with fail
       refine (HE.1 w3).mono ?_;rintro e w4 ⟨rfl,hb4⟩;have F1:=jP (F2.1.step hb4);have HR1:=jP (HR2.1.below (hb4.mono F2.1.hx));clear hb4 HE;go_wp2_with fail
       refine (BZ 298 #[] Gm.C9 (fA Tryz.func298 (by kernel_rfl) rfl) _ n c l B _ HR1.1 F1.1.hx hn (fun W y _=>Q_ y W)).mono ?_;rintro e w9 ⟨rfl,nK⟩;have F9:=jP (F1.1.step nK);clear nK;go_wp2_with fail
       go_ret
       exact⟨by rw[HV.1];rfl,F9.1.bl⟩
      | false=>
       have HV:=jP (show jo=true by rw[HJ.1,ah h1,ah h2,ah h3,ah h5,ah (by simp[ha]),ah (by simp[he])]);rw[he] at HE;clear HJ h1 h2 h3 h5 ha he;clear x0 x1 x2 x3 x4 x5 x6 x7 x8 x9 x10 x11;go_wp2_with fail
       refine HA.1.mono ?_;rintro e w3 ⟨rfl,hb3⟩;have F2:=jP (F0.1.step hb3);clear hb3 HA;go_wp2_with fail
       refine (HE.1 w3).mono ?_;rintro e w4 ⟨rfl,hb4⟩;have F1:=jP (F2.1.step hb4);clear hb4 HE;go_wp2_with fail
       go_ret
       exact⟨by rw[HV.1];rfl,F1.1.bl⟩
theorem TJ (h:j_ w B V T)(hB:B<=w.heap.size)(A:Option Addr)(n c:Nat)(l:List Int)(hr:Rd w B 1 A n (ints l))(hn:n<=1000000) :
  Calls Tryz.prog 208 #[kF V,.slice A n c] w fun e w'=>e=.returned (.tuple #[.int .i64 (Gm.context T l).1,.int .i64 (Gm.context T l).2])/\Below w.heap.size w w':=by
 have F0:=jP (Fr.start h hB);have HR0:=jP (hr.alloc hB (.cells (kK V) 26));have HL:=jP (lY hr);have HN:=jP (show Gm.context T l=if Gm.kE l≠0 then (0,Gm.kE l) else Gm.GI 18 (Gm.l9 (Gm.xA T l) l.length 0) from by unfold Gm.context;split;rfl;generalize Gm.l9 (Gm.xA T l) l.length 0=R;cases R<;>rfl);have HO:=jP (show (Gm.order T l).2=Gm.kE l by unfold Gm.order;split<;>simp_all);clear h hB hr;generalize Gm.context T l=nf at *;obtain⟨x0,x1,x2,x3,x4,x5,x6,x7,x8,x9,x10,x11⟩:=F0.1.cells;go_enter Tryz.func208,Tryz.ntmps208
 go_wp2_with fail
 clear x0 x1 x2 x3 x4 x5 x6 x7 x8 x9 x10 x11;refine (rq F0.1.tb F0.1.hx A n c l HR0.1 hn).mono ?_;rw[HO.1];rintro e w1 ⟨A1,c1,rfl,_,hb1⟩;have F1:=jP (F0.1.step hb1);have HR1:=jP (HR0.1.below (hb1.mono F0.1.hx));clear hb1 F0 HR0;generalize (Gm.order T l).1.length=n1 at *;by_cases h0:Gm.kE l=0
 ·generalize hR:Gm.l9 (Gm.xA T l) l.length 0=R at *;have HV:=jP (show nf=Gm.GI 18 R by rw[HN.1,ah (by simpa using h0)]);have R_:=jP (show Gm.l9 (Gm.xA T l) (n-0) 0=R by rw[Nat.sub_zero,<-HL.1];exact hR);rw[h0];clear HN h0 hR;go_wp2_with fail
  go_loopw [20] (fun vi wr=>∃ k:Nat,k<=n/\vi=.int .i64 k/\Gm.l9 (Gm.xA T l) (n-k) k=R/\Below w1.heap.size w1 wr) (fun vi _=>n-(intOf vi).toNat)
  case atStart=>exact⟨0,by omega,rfl,R_.1,ai _ _⟩
  case round=>
   obtain⟨k,hk,rfl,hg,hb⟩:=hrel;have HI:=jP hb;have HG:=jP hg;have F3:=jP (F1.1.step hb);clear hb hg;by_cases hlt:k<n
   ·obtain⟨hg1,hg2⟩:=Gm.GH hlt HG.1;have vN:=jP hg1;have HG2:=jP hg2;obtain⟨x0,x1,x2,x3,x4,x5,x6,x7,x8,x9,x10,x11⟩:=F3.1.cells;have HC:=jP (Z7 F3.1.tb F3.1.hx A n c l (HR1.1.below (HI.1.mono F1.1.hx)) hn k hlt);clear hg1 hg2 HG;generalize Gm.xA T l k=ok at *;go_wp2_with fail
    clear x0 x1 x2 x3 x4 x5 x6 x7 x8 x9 x10 x11;refine HC.1.mono ?_;rintro e w5 ⟨rfl,hb5⟩;have kY:=jP (HI.1.trans (hb5.mono HI.1.size));have F5:=jP (F3.1.step hb5);clear hb5 HC F3 HI;cases ok with
    | true=>
     have HE:=jP (vN.1 rfl);clear vN HG2;go_wp2_with fail
     go_roundw
     case rel=>exact⟨k+1,by omega,by go_num,HE.1,kY.1⟩
     case measure=>simp[intOf];try omega
    | false=>
     have HE:=jP (show nf=((k:Int),18) by rw[HV.1,HG2.1 rfl];rfl);clear vN HG2;go_wp2_with fail
     go_ret2
     rw[HE.1];exact⟨rfl,F5.1.bl⟩
   ·obtain rfl:k=n:=by omega
    have HE:=jP (show nf=(0,0) by
     have h1:=HG.1;rw[gY] at h1;rw[HV.1,<-h1];rfl)
    go_wp2_with fail
    go_ret2
    rw[HE.1];exact⟨rfl,F3.1.bl⟩
 ·have HV:=jP (show nf=(0,Gm.kE l) by rw[HN.1,aj h0]);have hb:(Gm.kE l != 0)=true:=by simpa using h0
  clear HN h0;go_wp2_with fail
  go_ret2
  rw[HV.1];exact⟨rfl,F1.1.bl⟩
end
theorem aah (a b:Nat)(ha:a<4096)(hb:b<4096):bits .and .i64 (a:Int) (b:Int)=((a &&& b:Nat):Int)/\bits .or .i64 (a:Int) (b:Int)=((a ||| b:Nat):Int):=
 bits_nat .i64 12 (by decide) (fun n h0 h1=>aW _ (by (have:(2:Int) ^ 12=4096:=by decide);omega)) a b (by simpa using ha) (by simpa using hb)
theorem Di (k p:Nat)(hk:k<=11)(hp:p=2 ^ k)(w:World):Calls Tryz.prog 211 #[.int .i64 k] w fun e w'=>e=.returned (.int .i64 p)/\w=w':=by
 have hc:k=0\/k=1\/k=2\/k=3\/k=4\/k=5\/k=6\/k=7\/k=8\/k=9\/k=10\/k=11:=by omega
 subst hp;rcases hc with rfl | rfl | rfl | rfl | rfl | rfl | rfl | rfl | rfl | rfl | rfl | rfl
 all_goals
  go_enter Tryz.func211,Tryz.ntmps211
  go_wp2_with fail
  go_ret
  exact⟨rfl,rfl⟩
theorem r_ (a b:Nat)(ha:a<4096)(hb:b<4096)(bi:Int)(hbi:bi=(b:Int))(r:Bool)(hr:(a &&& b != 0)=r)(w:World):Calls Tryz.prog 210 #[.int .i64 a,.int .i64 bi] w fun e w'=>e=.returned (.bool r)/\w=w':=by
 subst hbi;have h1:=(aah a b ha hb).1;have HR:=jP hr;clear hr;generalize a &&& b=d at *;go_enter Tryz.func210,Tryz.ntmps210
 go_wp2_with fail
 go_ret
 refine⟨?_,rfl⟩;rw[<-HR.1];have e:((d:Int) != 0)=(d != 0):=by
  by_cases h:d=0
  ·subst h;rfl
  ·have h2:(d:Int)≠0:=by omega
   rw[fK.2 h,fK.2 h2]
 first | (rw[<-e];rfl) | rfl
def Gm.bk (T:Gm.Tab)(c:Int):Nat:=(Gm.jX T c).toNat
theorem Gm.acI (c:Int):0<=(Gm.kZ c).jX/\(Gm.kZ c).jX<=11:=by
 unfold Gm.kZ;repeat' split
 all_goals decide
theorem Gm.age {T:Gm.Tab}(hT:Gm.Good T)(c:Int):0<=Gm.jX T c/\Gm.jX T c<=11:=by
 unfold Gm.jX Gm.pick;split
 ·decide
 ·split
  ·exact Gm.acI c
  ·exact hT.jX.range (by decide) c
theorem Gm.yD {T:Gm.Tab}(hT:Gm.Good T)(c:Int):Gm.jX T c=(Gm.bk T c:Int)/\Gm.bk T c<=11:=by
 have:=Gm.age hT c;unfold Gm.bk;omega
def Gm.uH (T:Gm.Tab)(l:List Int):Nat:=l.foldl (fun s c=>s ||| 2 ^ Gm.bk T c) 0
theorem Gm.Jt {k:Nat}(h:k<=11):2 ^ k<4096:=iC (Nat.pow_le_pow_right (by decide) h) (by decide)
theorem Gm.Vg {T:Gm.Tab}(hT:Gm.Good T):∀ (l:List Int) (s:Nat),s<4096->l.foldl (fun s c=>s ||| 2 ^ Gm.bk T c) s<4096
 | [],s,h=>h
 | c::l,s,h=>Gm.Vg hT l _ (bI (n:=12) h (Gm.Jt (Gm.yD hT c).2))
theorem Gm.LP {T:Gm.Tab}(hT:Gm.Good T)(l:List Int):Gm.uH T l<4096:=Gm.Vg hT l 0 (by decide)
theorem Gm.ajC (a b:Nat):(a ||| b != 0)=((a != 0)||(b != 0)):=by
 have h:=@Nat.or_eq_zero_iff a b;rw[gu];simp only[fK,Bool.or_eq_true,ne_eq,h];omega
theorem Gm.QZ {T:Gm.Tab}(m:Nat):∀ (l:List Int) (s:Nat),(l.foldl (fun s c=>s ||| 2 ^ Gm.bk T c) s &&& m != 0)=((s &&& m != 0)||l.any (fun c=>2 ^ Gm.bk T c &&& m != 0))
 | [],s=>by simp
 | c::l,s=>by
  rw[gZ,Gm.QZ m l,Nat.and_or_distrib_right,Gm.ajC,List.any_cons,Bool.or_assoc]
def Gm.Mask (m:Nat)(ks:List Int):Prop:=∀ k:Nat,k<=11->(2 ^ k &&& m != 0)=ks.contains (k:Int)
theorem Gm.vT {m:Nat}{ks:List Int}(h:(List.range 12).all (fun k=>(2 ^ k &&& m != 0)==ks.contains (k:Int))=true):Gm.Mask m ks:=fun k hk=>by
 have:=List.all_eq_true.1 h k (List.mem_range.2 (by omega));simpa using this
theorem Gm.Mask.has {m:Nat}{ks:List Int}(h:Gm.Mask m ks){T:Gm.Tab}(hT:Gm.Good T)(l:List Int):(Gm.uH T l &&& m != 0)=Gm.hasB T l ks:=by
 unfold Gm.uH Gm.hasB;rw[Gm.QZ,Nat.zero_and];simp only[bne_self_eq_false,Bool.false_or];congr 1
 funext c
 rw[h _ (Gm.yD hT c).2,<-(Gm.yD hT c).1]
def Gm.sU (T:Gm.Tab)(l:List Int):Nat:=match l.reverse.find? (fun c=>Gm.jX T c != 10) with
 | none=>0
 | some c=>2 ^ Gm.bk T c
theorem Gm.abS {T:Gm.Tab}(hT:Gm.Good T)(l:List Int):Gm.sU T l<4096:=by
 unfold Gm.sU;split
 ·decide
 ·exact Gm.Jt (Gm.yD hT _).2
theorem Gm.Mask.last {m:Nat}{ks:List Int}(h:Gm.Mask m ks){T:Gm.Tab}(hT:Gm.Good T)(l:List Int):(Gm.sU T l &&& m != 0)=((Gm.lastB T l).map (fun k=>ks.contains k)).getD false:=by
 unfold Gm.sU Gm.lastB;split
 ·rename_i e;rw[e];simp
 ·rename_i c e
  rw[e,h _ (Gm.yD hT c).2,<-(Gm.yD hT c).1];rfl
theorem Gm.aae {T:Gm.Tab}{l:List Int}{k:Nat}{x:Int}(h:l[k]?=some x):Gm.uH T (l.take (k+1))=Gm.uH T (l.take k) ||| 2 ^ Gm.bk T x:=by
 obtain⟨q1,q2⟩:=ak.1 h;unfold Gm.uH;rw[az q1,q2,List.foldl_append];rfl
theorem Gm.WR {T:Gm.Tab}{l:List Int}{k:Nat}{x:Int}(h:l[k]?=some x):Gm.sU T (l.take (k+1))=if Gm.jX T x=10 then Gm.sU T (l.take k) else 2 ^ Gm.bk T x:=by
 obtain⟨q1,q2⟩:=ak.1 h;unfold Gm.sU;rw[az q1,q2,List.reverse_append,List.reverse_singleton,List.singleton_append,List.find?_cons];by_cases e:Gm.jX T x=10
 ·rw[aj e,show (Gm.jX T x != 10)=false by simp[e]]
 ·rw[ah e,show (Gm.jX T x != 10)=true by simp[e]]
theorem Yd {w:World}{V:TV}{T:Gm.Tab}{B g p:Nat}{y:Int}{x:World}(h:So w V T B g p y x)(c:Int):Calls Tryz.prog 212 #[kF V,.int .i64 c] x fun e x'=>e=.returned (.int .i64 (Gm.jX T c))/\Below x.heap.size x x'/\So w V T B g p y x':=
 (Vh h.fr.tb h.fr.hx c).mono fun e x' ⟨he,hb⟩=>⟨he,hb,h.step hb⟩
section
variable {w:World} {B:Nat} {V:TV} {T:Gm.Tab}
theorem Hu (h:j_ w B V T)(hB:B<=w.heap.size)(A:Option Addr)(n c:Nat)(l:List Int)(hr:Rd w B 1 A n (ints l))(hn:n<=1000000) :
  Calls Tryz.prog 209 #[kF V,.slice A n c] w fun e w'=>e=.returned (.int .i64 (Gm.uH T l:Nat))/\Below w.heap.size w w':=by
 have F0:=jP (Fr.start h hB);have HR0:=jP (hr.alloc hB (.cells (kK V) 26));have HL:=jP (lY hr);clear h hr;go_enter Tryz.func209,Tryz.ntmps209
 go_wp2_with fail
 generalize hw1:w.alloc (.cells (kK V) 26)=w1 at *;clear hw1;go_loopw [5,10] (fun vs vi wr=>∃ k s:Nat,k<=n/\vi=.int .i64 k/\vs=.int .i64 s/\s=Gm.uH T (l.take k)/\Below w1.heap.size w1 wr) (fun _ vi _=>n-(intOf vi).toNat)
 case atStart=>exact⟨0,0,by omega,rfl,rfl,rfl,ai _ _⟩
 case round=>
  obtain⟨k,s,hk,rfl,rfl,hs,hb⟩:=hrel;have F2:=jP (F0.1.step hb);have HI:=jP hb;have HS:=jP hs;clear hb hs;by_cases hlt:k<n
  ·obtain⟨b,off,x,rfl,hbB,hat,hcell⟩:=jZ (HR0.1.below (HI.1.mono F0.1.hx)) hlt;have hk2:=Gm.yD F2.1.tb.good x;have HSS:=jP (Gm.aae (T:=T) hat);have hsl:s<4096:=by rw[HS.1];exact Gm.LP F2.1.tb.good _
   obtain⟨p,hp⟩:∃ p,p=2 ^ Gm.bk T x:=⟨_,rfl⟩;have Vu:=jP (fun W=>Di (Gm.bk T x) p hk2.2 hp W);have hpl:p<4096:=by rw[hp];exact Gm.Jt hk2.2
   have hor:=(aah s p hsl hpl).2;have HC:=jP (Vh F2.1.tb F2.1.hx x);rw[hk2.1] at HC;rw[<-hp,<-HS.1] at HSS;obtain⟨x0,x1,x2,x3,x4,x5,x6,x7,x8,x9,x10,x11⟩:=F2.1.cells;clear hat hk2 hp;generalize Gm.bk T x=kk at *;generalize hsp:s ||| p=sp at *;have Es:=jP hsp;clear hsp;go_wp2_with fail
   clear x0 x1 x2 x3 x4 x5 x6 x7 x8 x9 x10 x11 hcell;refine HC.1.mono ?_;rintro e w5 ⟨rfl,hb5⟩;have kY:=jP (HI.1.trans (hb5.mono HI.1.size));clear hb5 HC F2 HI;go_wp2_with fail
   refine (Vu.1 w5).mono ?_;rintro e w6 ⟨rfl,hw6⟩;subst hw6;go_wp2_with fail
   go_roundw
   case rel=>exact⟨k+1,sp,by omega,by go_num,rfl,HSS.1.symm,kY.1⟩
   case measure=>simp[intOf];try omega
  ·obtain rfl:k=n:=by omega
   have HE:=jP (show s=Gm.uH T l by rw[HS.1,aP (by have:=HL.1;omega)]);go_wp2_with fail
   go_ret
   exact⟨by rw[<-HE.1];rfl,F2.1.bl⟩
theorem aag (h:j_ w B V T)(hB:B<=w.heap.size)(A:Option Addr)(n c:Nat)(l:List Int)(hr:Rd w B 1 A n (ints l))(hn:n<=1000000) :
  Calls Tryz.prog 213 #[kF V,.slice A n c] w fun e w'=>e=.returned (.int .i64 (Gm.sU T l:Nat))/\Below w.heap.size w w':=by
 have F0:=jP (Fr.start h hB);have HR0:=jP (hr.alloc hB (.cells (kK V) 26));have HL:=jP (lY hr);clear h hr;have hw:IntKind.i64.wrap ((n:Int)-1)=(n:Int)-1:=aW _ (by omega);generalize hR:Gm.sU T l=R at *;have HR:=jP (show Gm.sU T (l.take n)=R by rw[aP (by have:=HL.1;omega)];exact hR);clear hR;go_enter Tryz.func213,Tryz.ntmps213
 go_wp2_with fail
 generalize hw1:w.alloc (.cells (kK V) 26)=w1 at *;clear hw1 hw;go_loopw [5] (fun v wr=>∃ j:Nat,j<=n/\v=.int .i64 ((j:Int)-1)/\Gm.sU T (l.take j)=R/\Below w1.heap.size w1 wr) (fun v _=>(intOf v+1).toNat)
 case atStart=>exact⟨n,by omega,rfl,HR.1,ai _ _⟩
 case round=>
  obtain⟨j,hj,rfl,hjn,hb⟩:=hrel;have F2:=jP (F0.1.step hb);have HI:=jP hb;have HN:=jP hjn;clear hb hjn;cases j with
  | zero=>
   have HX:=jP (show R=0 from HN.1.symm);have e0:((0:Nat):Int)-1=-1:=by omega
   rw[e0];go_wp2_with fail
   go_ret
   exact⟨by rw[HX.1];rfl,F2.1.bl⟩
  | succ q=>
   obtain⟨b,off,x,rfl,hbB,hat,hcell⟩:=jZ (HR0.1.below (HI.1.mono F0.1.hx)) (show q<n by omega);have HQ:=jP ((Gm.WR (T:=T) hat).symm.trans HN.1);have xe:=jP (Gm.yD F2.1.tb.good x);have hs0:So w V T B b (off+q) x wr.drew:=So.drew ⟨F2.1,by have:=F2.1.hx;omega,hcell⟩;have e0:((q+1:Nat):Int)-1=(q:Int):=by omega
   have hq0:(0:Int)<=(q:Int):=by omega
   have hq1:(q:Int)<(n:Int):=by omega
   rw[e0];clear hat hcell HN e0;go_wp2_with fail
   refine aI (S:=So w V T B b (off+q) x) (by kernel_rfl) hs0 (fun hHeld=>?_);refine tk 0 ?_;refine tk 1 ?_;refine tk 2 ?_;refine tk 3 ?_;refine tk 4 ?_;refine rc 5 fun K hK=>?_;go_simp
   refine (Yd hs0 x).mono ?_;rintro e w3 ⟨rfl,hb3,hs3⟩;try go_wp2_with fail
   refine rk hK hs3 fun hHeld=>?_;clear hK K;refine tk 6 ?_;refine aJ (by kernel_rfl) ?_ _;have F4:=jP hs3.fr;have HI4:=jP ((HI.1.drew).trans (hb3.mono HI.1.size));clear hs0 hs3 hb3 F2 HI;by_cases h10:Gm.jX T x=10
   ·have ry:=jP (show Gm.sU T (l.take q)=R by rw[<-HQ.1,aj h10]);have hw2:IntKind.i64.wrap ((q:Int)-1)=(q:Int)-1:=aW _ (by omega);rw[h10];clear HQ h10;go_wp2_with fail
    go_roundw
    case rel=>exact⟨q,by omega,rfl,ry.1,HI4.1⟩
    case measure=>simp[intOf];try omega
   ·have h5b:(Gm.jX T x != 10)=true:=by simpa using h10
    have HX:=jP (show R=2 ^ Gm.bk T x by rw[<-HQ.1,ah h10]);have Vu:=jP (fun W=>Di (Gm.bk T x) R xe.1.2 HX.1 W);clear h10 HQ HX;rw[xe.1.1] at h5b ⊢;generalize Gm.bk T x=kk at *;go_wp2_with fail
    refine (Vu.1 w3).mono ?_;rintro e w6 ⟨rfl,hw6⟩;subst hw6;go_wp2_with fail
    go_ret
    exact⟨rfl,F4.1.bl⟩
def Gm.adE (f1 a0 e3 a4 a3 f0 a5 e1:Bool):Int:=if f1=true then (if a0=true then 2 else if e3=false then 3 else if (a4&&a3)=true then 4 else 0) else if f0=true then (if a5=true then 5 else if e1=false then 6 else 0) else 1
theorem Gm.aeR {T:Gm.Tab}(hT:Gm.Good T){l:List Int}{x:Int}(h:l[0]?=some x) :
  Gm.rule T l=Gm.adE (2 ^ Gm.bk T x &&& 6 != 0) (Gm.uH T l &&& 2049 != 0) (Gm.sU T l &&& 30 != 0) (Gm.uH T l &&& 16 != 0) (Gm.uH T l &&& 8 != 0) (2 ^ Gm.bk T x &&& 1 != 0) (Gm.uH T l &&& 2062 != 0) (Gm.sU T l &&& 17 != 0):=by
 obtain⟨hk1,hk2⟩:=Gm.yD hT x;rw[(Gm.vT (m:=6) (ks:=[1,2]) (by decide)) _ hk2,(Gm.vT (m:=1) (ks:=[0]) (by decide)) _ hk2,(Gm.vT (m:=2049) (ks:=[0,11]) (by decide)).has hT,(Gm.vT (m:=16) (ks:=[4]) (by decide)).has hT,
  (Gm.vT (m:=8) (ks:=[3]) (by decide)).has hT,(Gm.vT (m:=2062) (ks:=[1,2,3,11]) (by decide)).has hT,(Gm.vT (m:=30) (ks:=[1,2,3,4]) (by decide)).last hT,(Gm.vT (m:=17) (ks:=[0,4]) (by decide)).last hT,<-hk1]
 match l,h with
 | a::r,h=>
  injection h with h
  subst h;unfold Gm.rule Gm.adE;have e1:([1,2]:List Int).contains (Gm.jX T a)=true↔Gm.jX T a=1\/Gm.jX T a=2:=by simp
  have e0:([0]:List Int).contains (Gm.jX T a)=true↔Gm.jX T a=0:=by simp
  simp only[e1,e0]
theorem Ud {g p n c:Nat}{y:Int}{x:World}{A:Option Addr}{l:List Int}(h:So w V T B g p y x)(hr:Rd w B 1 A n (ints l))(hB:B<=w.heap.size)(hn:n<=1000000) :
  (Calls Tryz.prog 209 #[kF V,.slice A n c] x fun e x'=>e=.returned (.int .i64 (Gm.uH T l:Nat))/\So w V T B g p y x') /\
  (Calls Tryz.prog 213 #[kF V,.slice A n c] x fun e x'=>e=.returned (.int .i64 (Gm.sU T l:Nat))/\So w V T B g p y x'):=by
 have hR:Rd x B 1 A n (ints l):=hr.below (h.fr.bl.mono hB);exact⟨(Hu h.fr.tb h.fr.hx A n c l hR hn).mono fun e x' ⟨he,hb⟩=>⟨he,h.step hb⟩,(aag h.fr.tb h.fr.hx A n c l hR hn).mono fun e x' ⟨he,hb⟩=>⟨he,h.step hb⟩⟩
theorem abf (h:j_ w B V T)(hB:B<=w.heap.size)(A:Option Addr)(n c:Nat)(l:List Int)(hr:Rd w B 1 A n (ints l))(hn:n<=1000000) :
  Calls Tryz.prog 146 #[kF V,.slice A n c] w fun e w'=>e=.returned (.int .i64 (Gm.rule T l))/\Below w.heap.size w w':=by
 have F0:=jP (Fr.start h hB);have HRW:=jP hr;have HR0:=jP (hr.alloc hB (.cells (kK V) 26));have HL:=jP (lY hr);clear h hr;by_cases hz:n=0
 ·have HV:=jP (show Gm.rule T l=0 by rw[bu (by have:=HL.1;omega:l.length=0)];rfl);have hz2:((n:Int)==0)=true:=by simp[hz]
  clear hz;go_enter Tryz.func146,Tryz.ntmps146
  go_wp2_with fail
  go_ret
  exact⟨by rw[HV.1];rfl,F0.1.bl⟩
 ·obtain⟨b,off,x,rfl,hbB,hat,hcell⟩:=jZ HR0.1 (show 0<n by omega);have hs0:So w V T B b off x ((w.alloc (.cells (kK V) 26)).drew):=So.drew ⟨F0.1,by have:=F0.1.hx;omega,hcell⟩;have H8:=jP (Gm.aeR F0.1.tb.good hat);have xe:=jP (Gm.yD F0.1.tb.good x);obtain⟨p,hp⟩:∃ p,p=2 ^ Gm.bk T x:=⟨_,rfl⟩;have HP:=jP (show p<4096 by rw[hp];exact Gm.Jt xe.1.2);have Vu:=jP (fun W=>Di (Gm.bk T x) p xe.1.2 hp W);rw[<-hp] at H8;have Gg:=jP (Gm.LP F0.1.tb.good l);have Ia:=jP (Gm.abS F0.1.tb.good l);have VE:=jP (fun W (hS:So w V T B b off x W)=>(Ud (c:=c) hS HRW.1 hB hn).1);have FW:=jP (fun W (hS:So w V T B b off x W)=>(Ud (c:=c) hS HRW.1 hB hn).2);generalize Gm.rule T l=ru at *;generalize Gm.uH T l=bs at *;generalize Gm.sU T l=ls at *;have hz2:((n:Int)==0)=false:=by simp[hz]
  have hz3:(0:Int)<(n:Int):=by omega
  have BU:0<n:=by omega
  clear hat hcell hp hz;go_enter Tryz.func146,Tryz.ntmps146
  go_wp2_with fail
  refine aI (S:=So w V T B b off x) (by kernel_rfl) hs0 (fun hHeld=>?_);refine tk 0 ?_;refine tk 1 ?_;refine tk 2 ?_;refine tk 3 ?_;refine tk 6 ?_;refine tk 7 ?_;refine tk 9 ?_;refine tk 10 ?_;refine rc 4 fun K hK=>?_;go_simp
  refine (Yd hs0 x).mono ?_;rintro e w3 ⟨rfl,hb3,hs3⟩;rw[xe.1.1];try go_wp2_with fail
  refine rk hK hs3 fun hHeld=>?_;clear hK K hb3;refine rc 5 fun K hK=>?_;go_simp
  refine (Vu.1 w3).mono ?_;rintro e w4 ⟨rfl,hw4⟩;subst hw4;try go_wp2_with fail
  refine rk hK hs3 fun hHeld=>?_;clear hK K;refine rc 8 fun K hK=>?_;go_simp
  refine (VE.1 w3 hs3).mono ?_;rintro e w5 ⟨rfl,hs5⟩;try go_wp2_with fail
  refine rk hK hs5 fun hHeld=>?_;clear hK K;refine rc 11 fun K hK=>?_;go_simp
  refine (FW.1 w5 hs5).mono ?_;rintro e w6 ⟨rfl,hs6⟩;try go_wp2_with fail
  refine rk hK hs6 fun hHeld=>?_;clear hK K;refine tk 12 ?_;refine tk 13 ?_;refine tk 14 ?_;refine aJ (by kernel_rfl) ?_ _;have F6:=jP hs6.fr;clear hs0 hs3 hs5 hs6 VE FW Vu;generalize Gm.bk T x=kk at *;generalize hf1:(p &&& 6 != 0)=f1 at *;generalize ha0:(bs &&& 2049 != 0)=a0 at *;generalize he3:(ls &&& 30 != 0)=e3 at *;generalize ha4:(bs &&& 16 != 0)=a4 at *;generalize Zy:(bs &&& 8 != 0)=a3 at *;generalize hf0:(p &&& 1 != 0)=f0 at *;generalize ha5:(bs &&& 2062 != 0)=a5 at *;generalize he1:(ls &&& 17 != 0)=e1 at *;have M1:=jP (fun W=>r_ p 6 HP.1 (by decide) 6 rfl f1 hf1 W);have M2:=jP (fun W=>r_ bs 2049 Gg.1 (by decide) 2049 rfl a0 ha0 W);have M3:=jP (fun W=>r_ ls 30 Ia.1 (by decide) 30 rfl e3 he3 W);have M4:=jP (fun W=>r_ bs 16 Gg.1 (by decide) 16 rfl a4 ha4 W);have M5:=jP (fun W=>r_ bs 8 Gg.1 (by decide) 8 rfl a3 Zy W);have M6:=jP (fun W=>r_ p 1 HP.1 (by decide) 1 rfl f0 hf0 W);have M7:=jP (fun W=>r_ bs 2062 Gg.1 (by decide) 2062 rfl a5 ha5 W);have M8:=jP (fun W=>r_ ls 17 Ia.1 (by decide) 17 rfl e1 he1 W);have O0:=jP (fun W=>Di 0 1 (by decide) rfl W);have O3:=jP (fun W=>Di 3 8 (by decide) rfl W);have O4:=jP (fun W=>Di 4 16 (by decide) rfl W);clear hf1 ha0 he3 ha4 Zy hf0 ha5 he1;go_wp2_with fail
  refine (M1.1 _).mono ?_;rintro e w7 ⟨rfl,hw7⟩;subst hw7;cases f1 with
  | true=>
   go_wp2_with fail
   refine (M2.1 _).mono ?_;rintro e w7 ⟨rfl,hw7⟩;subst hw7;cases a0 with
   | true=>
    go_wp2_with fail
    go_ret
    exact⟨by rw[H8.1];rfl,F6.1.bl⟩
   | false=>
    go_wp2_with fail
    refine (M3.1 _).mono ?_;rintro e w7 ⟨rfl,hw7⟩;subst hw7;cases e3 with
    | true=>
     go_wp2_with fail
     refine (O4.1 _).mono ?_;rintro e w7 ⟨rfl,hw7⟩;subst hw7;go_wp2_with fail
     refine (M4.1 _).mono ?_;rintro e w7 ⟨rfl,hw7⟩;subst hw7;cases a4 with
     | true=>
      go_wp2_with fail
      refine (O3.1 _).mono ?_;rintro e w7 ⟨rfl,hw7⟩;subst hw7;go_wp2_with fail
      refine (M5.1 _).mono ?_;rintro e w7 ⟨rfl,hw7⟩;subst hw7;cases a3 with
      | true=>
       go_wp2_with fail
       go_ret
       exact⟨by rw[H8.1];rfl,F6.1.bl⟩
      | false=>
       go_wp2_with fail
       go_ret
       exact⟨by rw[H8.1];rfl,F6.1.bl⟩
     | false=>
      go_wp2_with fail
      go_ret
      exact⟨by rw[H8.1];rfl,F6.1.bl⟩
    | false=>
     go_wp2_with fail
     go_ret
     exact⟨by rw[H8.1];rfl,F6.1.bl⟩
  | false=>
   go_wp2_with fail
   refine (O0.1 _).mono ?_;rintro e w7 ⟨rfl,hw7⟩;subst hw7;go_wp2_with fail
   refine (M6.1 _).mono ?_;rintro e w7 ⟨rfl,hw7⟩;subst hw7;cases f0 with
   | true=>
    go_wp2_with fail
    refine (M7.1 _).mono ?_;rintro e w7 ⟨rfl,hw7⟩;subst hw7;cases a5 with
    | true=>
     go_wp2_with fail
     go_ret
     exact⟨by rw[H8.1];rfl,F6.1.bl⟩
    | false=>
     go_wp2_with fail
     refine (M8.1 _).mono ?_;rintro e w7 ⟨rfl,hw7⟩;subst hw7;cases e1 with
     | true=>
      go_wp2_with fail
      go_ret
      exact⟨by rw[H8.1];rfl,F6.1.bl⟩
     | false=>
      go_wp2_with fail
      go_ret
      exact⟨by rw[H8.1];rfl,F6.1.bl⟩
   | false=>
    go_wp2_with fail
    go_ret
    exact⟨by rw[H8.1];rfl,F6.1.bl⟩
end
theorem Gm.Qx {l:List (List Int)}{i:Nat}{x:List Int}(h:l[i]?=some x):l.getD i []=x:=by rw[aY,h];rfl
section
variable {w:World} {B:Nat} {V:TV} {T:Gm.Tab}
theorem aeT (h:j_ w B V T)(hB:B<=w.heap.size)(A:Option Addr)(n c:Nat)(l:List Int)(hr:Rd w B 1 A n (ints l))(hn:n<=1000000) :
  Calls Tryz.prog 145 #[kF V,.slice A n c] w fun e w'=>e=.returned (.bool (Gm.GY T l))/\Below w.heap.size w w':=by
 have F0:=jP (Fr.start h hB);have HR0:=jP (hr.alloc hB (.cells (kK V) 26));have HO:=jP (show (Gm.order T l).2=Gm.kE l by unfold Gm.order;split<;>simp_all);have HN:=jP (show Gm.GY T l=(decide (Gm.kE l=0)&&(Gm.uH T l &&& 14 != 0)) by rw[(Gm.vT (m:=14) (ks:=[1,2,3]) (by decide)).has h.good];rfl);have Gg:=jP (Gm.LP h.good l);clear h hB hr;generalize Gm.GY T l=nf at *;obtain⟨x0,x1,x2,x3,x4,x5,x6,x7,x8,x9,x10,x11⟩:=F0.1.cells;go_enter Tryz.func145,Tryz.ntmps145
 go_wp2_with fail
 clear x0 x1 x2 x3 x4 x5 x6 x7 x8 x9 x10 x11;refine (rq F0.1.tb F0.1.hx A n c l HR0.1 hn).mono ?_;rw[HO.1];rintro e w1 ⟨A1,c1,rfl,_,hb1⟩;have F1:=jP (F0.1.step hb1);have HR1:=jP (HR0.1.below (hb1.mono F0.1.hx));clear hb1 F0 HR0;generalize (Gm.order T l).1.length=n1 at *;by_cases h0:Gm.kE l=0
 ·have HC:=jP (Hu F1.1.tb F1.1.hx A n c l HR1.1 hn);have HV:=jP (show nf=(Gm.uH T l &&& 14 != 0) by rw[HN.1,bT h0,je]);rw[h0];clear h0 HN;generalize Gm.uH T l=bs at *;obtain⟨x0,x1,x2,x3,x4,x5,x6,x7,x8,x9,x10,x11⟩:=F1.1.cells;go_wp2_with fail
  clear x0 x1 x2 x3 x4 x5 x6 x7 x8 x9 x10 x11;refine HC.1.mono ?_;rintro e w5 ⟨rfl,hb5⟩;have F5:=jP (F1.1.step hb5);clear hb5 HC;go_wp2_with fail
  refine (r_ bs 14 Gg.1 (by decide) 14 rfl nf HV.1.symm _).mono ?_;rintro e w7 ⟨rfl,hw7⟩;subst hw7;go_wp2_with fail
  go_ret
  exact⟨rfl,F5.1.bl⟩
 ·have HV:=jP (show nf=false by rw[HN.1,bD h0,Bool.false_and]);have hb:(Gm.kE l==0)=false:=by simpa using h0
  clear HN h0;go_wp2_with fail
  go_ret
  exact⟨by rw[HV.1];rfl,F1.1.bl⟩
def Gm.ZP (ls:List (List Int))(m:Bool)(R2:Option Nat):Option Nat->Int×Int
 | some i=>((i:Int),Gm.kE (ls.getD i []))
 | none=>if m=true then Gm.GI 19 R2 else (0,0)
theorem Xq (h:j_ w B V T)(hB:B<=w.heap.size)(A:Option Addr)(c n:Nat)(ls:List (List Int))(hr:xJ w B A ls)(hln:ls.length=n)(hn:n<=1000000)(hrow:∀ l∈ls,l.length<=1000000) :
  Calls Tryz.prog 84 #[kF V,.slice A n c] w fun e w'=>e=.returned (.tuple #[.int .i64 (Gm.domain T ls).1,.int .i64 (Gm.domain T ls).2])/\Below w.heap.size w w':=by
 have F0:=jP (Fr.start h hB);have HR0:=jP (hr.below ((ai B w).alloc hB (.cells (kK V) 26)));have HL:=jP hln;have HW:=jP hrow;obtain⟨R2,hR2⟩:∃ R2,Gm.l9 (fun i=>decide (Gm.rule T (ls.getD i [])=0)) ls.length 0=R2:=⟨_,rfl⟩;obtain⟨R1,hR1⟩:∃ R1,Gm.l9 (fun i=>decide (Gm.kE (ls.getD i [])=0)) ls.length 0=R1:=⟨_,rfl⟩;have HV:=jP (show Gm.domain T ls=Gm.ZP ls (ls.any (Gm.GY T)) R2 R1 by
  unfold Gm.domain;rw[hR1,hR2];cases R1 with
  | some i=>rfl
  | none=>
   simp only[Gm.ZP];split
   ·cases R2<;>rfl
   ·rfl)
 have R_:=jP (show Gm.l9 (fun i=>decide (Gm.kE (ls.getD i [])=0)) (n-0) 0=R1 by rw[Nat.sub_zero,<-hln];exact hR1);have HK0:=jP (show Gm.l9 (fun i=>decide (Gm.rule T (ls.getD i [])=0)) (n-0) 0=R2 by rw[Nat.sub_zero,<-hln];exact hR2);clear h hr hln hrow hR1 hR2;generalize Gm.domain T ls=nf at *;go_enter Tryz.func84,Tryz.ntmps84
 go_wp2_with fail
 generalize hw1:w.alloc (.cells (kK V) 26)=w1 at *;clear hw1;go_loopw [6,15] (fun vm vi wr=>∃ (k:Nat) (m:Bool),k<=n/\vi=.int .i64 k/\vm=.bool m/\m=(ls.take k).any (Gm.GY T)/\Gm.l9 (fun i=>decide (Gm.kE (ls.getD i [])=0)) (n-k) k=R1/\Below w1.heap.size w1 wr) (fun _ vi _=>n-(intOf vi).toNat)
 case atStart=>exact⟨0,false,by omega,rfl,rfl,rfl,R_.1,ai _ _⟩
 case round=>
  obtain⟨k,m,hk,rfl,rfl,hm,hg,hb⟩:=hrel;have HI:=jP hb;have HG:=jP hg;have HM:=jP hm;have F3:=jP (F0.1.step hb);clear hb hg hm;by_cases hlt:k<n
  ·obtain⟨b,off,ys,A',c',rfl,hbB,hat,hcell,He⟩:=(HR0.1.below (HI.1.mono F0.1.hx)).at_ (show k<ls.length by have:=HL.1;omega);obtain⟨hg1,hg2⟩:=Gm.GH hlt HG.1;have Vq:=jP He;have hyl:=HW.1 ys (ay hat);have HD:=jP (Gm.Qx hat);have HT:=jP (show (ls.take (k+1)).any (Gm.GY T)=(m||Gm.GY T ys) by
    obtain⟨q1,q2⟩:=ak.1 hat;rw[az q1,q2,jL,HM.1];simp)
   rw[HD.1] at hg1 hg2;have vN:=jP hg1;have HG2:=jP hg2;have HO:=jP (show (Gm.order T ys).2=Gm.kE ys by unfold Gm.order;split<;>simp_all);obtain⟨x0,x1,x2,x3,x4,x5,x6,x7,x8,x9,x10,x11⟩:=F3.1.cells;clear hat hg1 hg2 HG He;generalize hyn:ys.length=yn at *;have HYN:=jP hyn;clear hyn;go_wp2_with fail
   clear x0 x1 x2 x3 x4 x5 x6 x7 x8 x9 x10 x11 hcell;refine (rq F3.1.tb F3.1.hx A' yn c' ys Vq.1 hyl).mono ?_;rw[HO.1];rintro e w5 ⟨A1,c1,rfl,_,hb5⟩;have kY:=jP (HI.1.trans (hb5.mono HI.1.size));have F5:=jP (F3.1.step hb5);have al_:=jP (Vq.1.below (hb5.mono F3.1.hx));clear hb5 HO F3 HI Vq;generalize (Gm.order T ys).1.length=n1 at *;by_cases h0:Gm.kE ys=0
   ·have HE:=jP (vN.1 (by rw[bT h0]));rw[h0];clear vN HG2 h0;cases m with
    | true=>
     go_wp2_with fail
     go_roundw
     case rel=>exact⟨k+1,true,by omega,by go_num,rfl,by rw[HT.1];rfl,HE.1,kY.1⟩
     case measure=>simp[intOf];try omega
    | false=>
     obtain⟨x0,x1,x2,x3,x4,x5,x6,x7,x8,x9,x10,x11⟩:=F5.1.cells;go_wp2_with fail
     clear x0 x1 x2 x3 x4 x5 x6 x7 x8 x9 x10 x11;refine (aeT F5.1.tb F5.1.hx A' yn c' ys al_.1 hyl).mono ?_;rintro e w6 ⟨rfl,hb6⟩;have um:=jP (kY.1.trans (hb6.mono kY.1.size));clear hb6;go_wp2_with fail
     go_roundw
     case rel=>exact⟨k+1,Gm.GY T ys,by omega,by go_num,rfl,by rw[HT.1];rfl,HE.1,um.1⟩
     case measure=>simp[intOf];try omega
   ·have HE:=jP (show nf=((k:Int),Gm.kE ys) by rw[HV.1,HG2.1 (bD h0),<-HD.1];rfl);have hb:(Gm.kE ys != 0)=true:=by simpa using h0
    clear vN HG2 h0;go_wp2_with fail
    go_ret2
    rw[HE.1];exact⟨rfl,F5.1.bl⟩
  ·obtain rfl:k=n:=by omega
   have HR1:=jP (show R1=none by
    have h1:=HG.1;rw[gY] at h1;exact h1.symm)
   have oN:=jP (show m=ls.any (Gm.GY T) by rw[HM.1,aP (by have:=HL.1;omega)]);clear HG HM hlt hk;go_wp2_with fail
   cases m with
   | false=>
    have HE:=jP (show nf=(0,0) by rw[HV.1,HR1.1,<-oN.1];rfl);go_loopw [39] (fun vi wq=>∃ j:Nat,j<=k/\vi=.int .i64 j/\Below wr.heap.size wr wq) (fun vi _=>k-(intOf vi).toNat)
    case atStart=>exact⟨0,by omega,rfl,ai _ _⟩
    case round=>
     obtain⟨j,hj,rfl,hb⟩:=hrel;have HI2:=jP hb;have F4:=jP (F3.1.step hb);clear hb;by_cases hlt:j<k
     ·obtain⟨b,off,ys,A',c',rfl,hbB,hat,hcell,He⟩:=(HR0.1.below ((HI.1.mono F0.1.hx).trans (HI2.1.mono F3.1.hx))).at_ (show j<ls.length by have:=HL.1;omega);clear hat He;go_wp2_with fail
      go_roundw
      case rel=>exact⟨j+1,by omega,by go_num,HI2.1⟩
      case measure=>simp[intOf];try omega
     ·obtain rfl:j=k:=by omega
      go_wp2_with fail
      go_ret2
      rw[HE.1];exact⟨rfl,F4.1.bl⟩
   | true=>
    have HE:=jP (show nf=Gm.GI 19 R2 by rw[HV.1,HR1.1,<-oN.1];rfl);go_loopw [39] (fun vi wq=>∃ j:Nat,j<=k/\vi=.int .i64 j/\Gm.l9 (fun i=>decide (Gm.rule T (ls.getD i [])=0)) (k-j) j=R2/\Below wr.heap.size wr wq) (fun vi _=>k-(intOf vi).toNat)
    case atStart=>exact⟨0,by omega,rfl,HK0.1,ai _ _⟩
    case round=>
     obtain⟨j,hj,rfl,hg,hb⟩:=hrel;have HI2:=jP hb;have HG:=jP hg;have F4:=jP (F3.1.step hb);clear hb hg;by_cases hlt:j<k
     ·obtain⟨b,off,ys,A',c',rfl,hbB,hat,hcell,He⟩:=(HR0.1.below ((HI.1.mono F0.1.hx).trans (HI2.1.mono F3.1.hx))).at_ (show j<ls.length by have:=HL.1;omega);obtain⟨hg1,hg2⟩:=Gm.GH hlt HG.1;have hyl:=HW.1 ys (ay hat);have HC:=jP (abf F4.1.tb F4.1.hx A' ys.length c' ys He hyl);rw[Gm.Qx hat] at hg1 hg2;have vN:=jP hg1;have HG2:=jP hg2;obtain⟨x0,x1,x2,x3,x4,x5,x6,x7,x8,x9,x10,x11⟩:=F4.1.cells;clear hat hg1 hg2 HG He hyl;generalize Gm.rule T ys=ru at *;generalize ys.length=yn at *;go_wp2_with fail
      clear x0 x1 x2 x3 x4 x5 x6 x7 x8 x9 x10 x11 hcell;refine HC.1.mono ?_;rintro e w5 ⟨rfl,hb5⟩;have kY:=jP (HI2.1.trans (hb5.mono HI2.1.size));have F5:=jP (F4.1.step hb5);clear hb5 HC F4 HI2;by_cases h0:ru=0
      ·have HX:=jP (vN.1 (by rw[bT h0]));subst h0;clear vN HG2;go_wp2_with fail
       go_roundw
       case rel=>exact⟨j+1,by omega,by go_num,HX.1,kY.1⟩
       case measure=>simp[intOf];try omega
      ·have HX:=jP (show nf=((j:Int),19) by rw[HE.1,HG2.1 (bD h0)];rfl);have hb:(ru != 0)=true:=by simpa using h0
       clear vN HG2 h0;go_wp2_with fail
       go_ret2
       rw[HX.1];exact⟨rfl,F5.1.bl⟩
     ·obtain rfl:j=k:=by omega
      have HX:=jP (show nf=(0,0) by
       have h1:=HG.1;rw[gY] at h1;rw[HE.1,<-h1];rfl)
      go_wp2_with fail
      go_ret2
      rw[HX.1];exact⟨rfl,F4.1.bl⟩
end
end Go.Proofs.YtkachcflifhgiaaGreatDoor
