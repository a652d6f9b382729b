/-  -/
import Derived.Test.YtkachcflifhgiaaGreatDoorM21
import Derived.Test.YtkachcflifhgiaaGreatDoorM20
set_option linter.unusedVariables false
set_option maxRecDepth 100000
set_option maxHeartbeats 16000000
namespace Go.Proofs.YtkachcflifhgiaaGreatDoor
open Go Go.RowKit Go.Shelf Go.Proofs
theorem aba (s:ByteArray)(hs:s.size<=1000000)(w:World):Calls Tryz.prog 136 #[.string s] w (Cb 3 (Ut.oH (lst s)).1 [.int .i64 ((Ut.oH (lst s)).2:Nat)] w):=by
 have HSS:=jP (rfl:Ut.oH (lst s)=Ut.oH (lst s));generalize hsc:Ut.oH (lst s)=sc at HSS ⊢;have Dv:=jP hsc;clear hsc HSS;go_enter Tryz.func136,Tryz.ntmps136
 go_wp2_with fail
 go_loopw [4,5] (fun vl vi wr=>∃ (k m:Nat) (A:Option Addr) (c:Nat) (out:List Int),k<=s.size/\m<=k/\vi=.int .i64 k/\vl=.slice A m c/\out.length=m/\sc=(out++(Ut.oH ((lst s).drop k)).1,k+(Ut.oH ((lst s).drop k)).2)/\wr.ownsRow w.heap.size 3 1 (.slice A m c) m (ints out)/\Below w.heap.size w wr) (fun _ vi _=>s.size-(intOf vi).toNat)
 case atStart=>exact⟨0,0,none,0,[],by omega,by omega,rfl,rfl,rfl,by rw[<-Dv.1];simp,aH _ _ _ _,ai _ _⟩
 case round=>
  obtain⟨k,m,A2,c2,out,hk,hmk,rfl,rfl,hol,hsc,ho,hb⟩:=hrel;have HO:=jP ho;have HB:=jP hb;have HE:=jP hsc;have Dy:=jP hol;clear ho hb hsc hol;by_cases hlt:k<s.size
  ·have HC:=jP (fun w=>first_any s k hlt hs w);have hle:=(Ut.Qz ((lst s).drop k)).1;rw[bF,jV] at hle;have HST:=jP (fun h=>Ut.VY (L:=(lst s).drop k) h);have Es:=jP (fun h=>Ut.Jn (L:=(lst s).drop k) h);have hdd:∀ j,((lst s).drop k).drop j=(lst s).drop (k+j):=fun j=>by rw[List.drop_drop]
   generalize Ut.first ((lst s).drop k)=f at *;obtain⟨c,q⟩:=f;simp only at HC hle HST Es;rw[hdd] at Es;clear hdd;generalize (lst s).drop k=L at *;go_wp2_with fail
   refine (HC.1 _).mono ?_;rintro e w3 ⟨rfl,hb3⟩;have mX:=jP (kD HO.1 hb3);have HB3:=jP (J7 HB.1 hb3);have hsw:=HB3.1.size;clear hb3 HC HO HB;by_cases hq:q=0
   ·have HX:=jP (show sc=(out,k) by rw[HE.1,HST.1 hq];simp);subst hq;clear HST Es HE;go_wp2_with fail
    go_ret2
    rw[HX.1];exact⟨A2,c2,by rw[Dy.1];rfl,by rw[Dy.1];exact mX.1,HB3.1⟩
   ·have AQ:((q:Int)==0)=false:=by rw[aX];omega
    have HX:=jP (show sc=((out++[(c:Int)])++(Ut.oH ((lst s).drop (k+q))).1,(k+q)+(Ut.oH ((lst s).drop (k+q))).2) by
     rw[HE.1,Es.1 hq];simp only[dQ,gI,jh,Prod.mk.injEq,true_and];omega)
    clear HST Es HE;go_wp2_with (at_builtin;refine kW (by rfl) _ _ rfl (base:=w.heap.size) rfl (mX.1.alloc _) rfl (kG (z:=w3.heap.size) rfl (c:Int)) (by omega) (by simp<;>omega) ?_)
    intro A4 c4 w4 kQ hg4 hc4;have HB4:=jP (own_below mX.1 HB3.1 _ hg4 hsw);have lC:=jP kQ;clear kQ hg4 hc4;go_wp2
    go_roundw
    case rel=>exact⟨k+q,m+1,A4,c4,out++[(c:Int)],by omega,by omega,by go_num,rfl,by rw[aA,Dy.1];rfl,HX.1,lC.1,HB4.1⟩
    case measure=>simp[intOf];omega
  ·obtain rfl:k=s.size:=by omega
   have HX:=jP (show sc=(out,s.size) by
    rw[HE.1,eU (by rw[jV];omega)];simp[Ut.Ym])
   clear HE;go_wp2
   go_ret2
   rw[HX.1];exact⟨A2,c2,by rw[Dy.1];rfl,by rw[Dy.1];exact HO.1,HB.1⟩
theorem aaW (s:ByteArray)(hs:s.size<=1000000)(w:World):Calls Tryz.prog 79 #[.string s] w (Cb 3 (Ut.dec (lst s)).1 [.int .i64 (Ut.dec (lst s)).2.1,.int .i64 (Ut.dec (lst s)).2.2] w):=by
 have HD:=jP (show Ut.dec (lst s)=if 4096<s.size then ([],0,7) else if (Ut.oH (lst s)).2<s.size then ([],((Ut.oH (lst s)).2:Int),9) else ((Ut.oH (lst s)).1,0,0) by unfold Ut.dec;rw[jV]);have HC:=jP (fun w=>aba s hs w);generalize hnf:Ut.dec (lst s)=nf at *;clear hnf;generalize Ut.oH (lst s)=sc at *;obtain⟨l,q⟩:=sc;simp only at HD HC;by_cases h4:4096<s.size
 ·have HX:=jP (show nf=([],0,7) by rw[HD.1,aj h4]);have Hl:(4096:Int)<(s.size:Int):=by omega
  clear HD;go_enter Tryz.func79,Tryz.ntmps79
  go_wp2_with fail
  go_ret3
  rw[HX.1];exact⟨none,0,rfl,aH _ _ _ _,ai _ _⟩
 have HD2:=jP (show nf=if q<s.size then ([],(q:Int),9) else (l,0,0) by rw[HD.1,ah h4]);have Hl:¬(4096:Int)<(s.size:Int):=by omega
 clear HD;go_enter Tryz.func79,Tryz.ntmps79
 go_wp2_with fail
 refine (HC.1 _).mono ?_;rintro e w1 ⟨A,c,rfl,ho,hb⟩;have HO:=jP ho;have HB:=jP hb;clear ho hb;by_cases hq:q<s.size
 ·have HX:=jP (show nf=([],(q:Int),9) by rw[HD2.1,aj hq]);have hqi:(q:Int)<(s.size:Int):=by omega
  clear HD2;go_wp2_with fail
  go_ret3
  rw[HX.1];exact⟨none,0,rfl,aH _ _ _ _,HB.1⟩
 ·have HX:=jP (show nf=(l,0,0) by rw[HD2.1,ah hq]);have hqi:¬(q:Int)<(s.size:Int):=by omega
  clear HD2;go_wp2_with fail
  go_ret3
  rw[HX.1];exact⟨A,c,rfl,HO.1,HB.1⟩
end Go.Proofs.YtkachcflifhgiaaGreatDoor
