/-   -/
import Derived.Test.YtkachcflifhgiaaGreatDoorM06
import Derived.Deep.DeepCutAuto
import Derived.Deep.QuietTactic
import Derived.BigQuiet
set_option linter.unusedVariables false
set_option maxRecDepth 100000
set_option maxHeartbeats 16000000
namespace Go.Proofs.YtkachcflifhgiaaGreatDoor
open Go Go.RowKit
theorem Q7 {l:List Int}{k:Nat}{c:Int}(hk:l[k]?=some c):Pn.basics (l.take (k+1))=Pn.basics (l.take k)++(if c<128 then [c] else []):=by
 obtain⟨h1,h2⟩:=ak.1 hk;unfold Pn.basics;rw[az h1,h2,iD,List.filter_cons];by_cases hc:c<128
 ·simp[hc]
 ·simp[hc]
theorem ZL {l:List Int}(h:256<l.length):Pn.nV l=([],7):=by unfold Pn.nV;rw[aj h]
theorem acM {l:List Int}(h:l.length<=256){k:Nat}{c:Int}(hk:l[k]?=some c)(hc:Pn.scalar c=false):Pn.nV l=([],3):=by
 unfold Pn.nV;rw[ah (by omega),ah];intro ha;rw[b_.1 ha c (ay hk)] at hc;cases hc
theorem ZM {l:List Int}(h:l.length<=256)(ha:∀ c∈l,Pn.scalar c=true):Pn.nV l=(Pn.enc l,0):=by
 unfold Pn.nV;rw[ah (by omega),aj (b_.2 ha)]
def GU (w:World)(l:List Int)(k:Nat)(v:Value)(wr:World):Prop:=
 ∃ m A c,((Pn.basics (l.take k)).map Pn.byte).length=m/\m<=k/\v=.slice A m c/\wr.ownsRow w.heap.size 5 1 (.slice A m c) m (mW ((Pn.basics (l.take k)).map Pn.byte))/\Below w.heap.size w wr/\(∀ c∈l.take k,Pn.scalar c=true)
theorem GU.skip {w:World}{l:List Int}{k:Nat}{v:Value}{wr:World}{c:Int}(h:GU w l k v wr)(hk:l[k]?=some c)(hs:Pn.scalar c=true)(hc:¬c<128):GU w l (k+1) v wr:=by
 obtain⟨m,A,c',h1,h2,h3,h4,h5,h6⟩:=h;have e:=Q7 hk;rw[ah hc,fC] at e;refine⟨m,A,c',by rw[e];exact h1,by omega,h3,by rw[e];exact h4,h5,?_⟩;intro x hx;obtain⟨g1,g2⟩:=ak.1 hk;rw[az g1,g2] at hx;rcases aO.1 hx with hx | hx
 ·exact h6 x hx
 ·rw[aB.1 hx];exact hs
theorem Lu (A:Option Addr)(c:Nat)(l:List Int)(w:World)(h:256<l.length)(hl:l.length<=1000000000000000) :
  Calls Tryz.prog 179 #[.slice A l.length c] w fun e w'=>e=.returned (.tuple #[.string (str (Pn.nV l).1),.int .i64 (Pn.nV l).2])/\Below w.heap.size w w':=by
 rw[ZL h];go_enter Tryz.func179,Tryz.ntmps179
 go_wp2
 go_ret2
 exact⟨rfl,ai _ _⟩
theorem OT {P:Program}(w:World)(ts:Array TypeId)(t:TypeId)(x y:Int):(Builtin.min_ ts t #[.int .i64 x,.int .i64 y]).run P w=.ok (.int .i64 (min x y)) w:=by
 have e:min x y=if y<x then y else x:=by split<;>omega
 rw[e];simp[Builtin.min_,Builtin.min2]
def Pn.sofar (l:List Int)(pre:List Int):List UInt8:=Pn.front l++pre.map Pn.pq
theorem Pn.Md (l:List Int):Pn.sofar l []=Pn.front l:=by simp[Pn.sofar]
theorem Pn.OJ (l pre ys:List Int):Pn.sofar l pre++ys.map Pn.pq=Pn.sofar l (pre++ys):=by simp[Pn.sofar]
theorem Pn.Yc (l pre:List Int):(Pn.sofar l pre).length<=l.length+1+pre.length:=by
 unfold Pn.sofar Pn.front;have:=Pn.J9 l;split<;>simp<;>omega
theorem Xk (A:Option Addr)(c:Nat)(l:List Int)(B:Nat)(w:World)(hr:Rd w B 1 A l.length (ints l))(hBw:B<=w.heap.size)(hl:l.length<=1000000000000000) :
  Calls Tryz.prog 179 #[.slice A l.length c] w fun e w'=>e=.returned (.tuple #[.string (str (Pn.nV l).1),.int .i64 (Pn.nV l).2])/\Below w.heap.size w w':=by
 by_cases hlong:256<l.length
 ·exact Lu A c l w hlong hl
 have GG:l.length<=256:=by omega
 clear hlong hl;have HR:=jP hr;clear hr;go_enter Tryz.func179,Tryz.ntmps179
 go_wp2_with fail
 go_loopw [4,22] (fun vo vi wr=>∃ k:Nat,k<=l.length/\vi=.int .i64 k/\GU w l k vo wr) (fun _ vi _=>l.length-(intOf vi).toNat)
 case atStart=>exact⟨0,by omega,rfl,0,none,0,rfl,by omega,rfl,aH _ _ _ _,ai _ _,by simp⟩
 case round=>
  obtain⟨k,hk,rfl,m,A',c',hm,hmk,rfl,ho,hbl,hsc⟩:=hrel;have HM:=jP hm;have HO:=jP ho;have HB:=jP hbl;have HS:=jP hsc;have Qg:=hbl.size;clear hm ho hbl hsc;by_cases hlt:k<l.length
  ·obtain⟨b,off,cc,rfl,hb,hat,hcell⟩:=jZ (HR.1.below (HB.1.mono hBw)) hlt;have HAT:=jP hat;clear hat;go_wp2_with fail
   refine (JE cc _).mono ?_;rintro e w9 ⟨rfl,qP⟩;subst qP;have hz:=Pn.P5 cc;generalize Pn.len cc=ln at *;cases IM:Pn.scalar cc
   ·rw[IM] at hz;have HE:=jP (acM GG HAT.1 IM);clear IM;go_wp2
    go_ret2
    exact⟨by rw[HE.1];rfl,HB.1⟩
   ·rw[IM] at hz;have hc0:=(Pn.yJ IM).1;have Dv:=jP IM;clear IM;by_cases hc:cc<128
    ·have hbn:=Pn.wR cc hc0 (by omega);have Ik:=jP hbn;clear hbn;go_wp2_with (at_builtin;refine rG (by rfl) _ _ rfl (base:=w.heap.size) rfl (HO.1.alloc _) rfl (zU (z:=wr.heap.size) rfl Ik.1) (by omega) (by simp<;>omega) ?_)
     intro A4 c4 w4 kQ hg4 hc4;have HP:=jP (own_below HO.1 HB.1 _ hg4 Qg);have hbs:=Q7 HAT.1;rw[aj hc] at hbs;have hmp:(Pn.basics (l.take (k+1))).map Pn.byte=(Pn.basics (l.take k)).map Pn.byte++[Pn.byte cc]:=by rw[hbs];simp
     have HMP:=jP hmp;have hml:((Pn.basics (l.take (k+1))).map Pn.byte).length=m+1:=by rw[hmp,aA,HM.1];rfl
     have hs2:∀ x∈l.take (k+1),Pn.scalar x=true:=by
      intro x hx;obtain⟨g1,g2⟩:=ak.1 HAT.1;rw[az g1,g2] at hx;rcases aO.1 hx with hx | hx
      ·exact HS.1 x hx
      ·rw[aB.1 hx];exact Dv.1
     have HEO:=jP (show GU w l (k+1) (.slice A4 (m+1) c4) w4 from ⟨m+1,A4,c4,hml,by omega,rfl,by rw[HMP.1];exact kQ,HP.1,hs2⟩);clear kQ hg4 hc4 hbs hmp hml hs2;go_wp2
     go_roundw
     case rel=>exact⟨k+1,by omega,by go_num,HEO.1⟩
     case measure=>simp[intOf];omega
    ·go_wp2
     go_roundw
     case rel=>exact⟨k+1,by omega,by go_num,GU.skip ⟨m,A',c',HM.1,hmk,rfl,HO.1,HB.1,HS.1⟩ HAT.1 Dv.1 (by omega)⟩
     case measure=>simp[intOf];omega
  ·have htk:l.take k=l:=aP (by omega);have hm:=HM.1;have ho:=HO.1;have hsc:=HS.1;rw[htk] at hm ho hsc;rw[bH] at hm;have HE:=jP (ZM GG hsc);have HM:=jP hm;have HO:=jP ho;have Dv:=jP hsc;have hml:m<=256:=by omega
   clear hm ho hsc htk HS;go_upto_if 40 with fail
   go_cut [4] (fun vo wx=>∃ A c,vo=.slice A (Pn.sofar l []).length c/\wx.ownsRow w.heap.size 5 1 (.slice A (Pn.sofar l []).length c) (Pn.sofar l []).length (mW (Pn.sofar l []))/\Below w.heap.size w wx)
   case first=>
    by_cases h0:0<m
    ·have hf:Pn.sofar l []=(Pn.basics l).map Pn.byte++[45]:=by rw[Pn.Md];unfold Pn.front;rw[ah (by have:=HM.1;omega)]
     have hfl:(Pn.sofar l []).length=m+1:=by rw[hf,aA,bH,HM.1];rfl
     have HF:=jP hf;have Ie:=jP hfl;clear hf hfl;go_wp2_with (at_builtin;refine rG (by rfl) _ _ rfl (base:=w.heap.size) rfl (HO.1.alloc _) rfl (zU (z:=wr.heap.size) (b:=45) rfl rfl) (by omega) (by simp<;>omega) ?_)
     intro A4 c4 w4 kQ hg4 hc4;have HP:=jP (own_below HO.1 HB.1 _ hg4 Qg);have lC:=jP kQ;clear kQ hg4 hc4;go_wp2
     go_meet
     case rel=>exact⟨A4,c4,by rw[Ie.1],by rw[Ie.1,HF.1];exact lC.1,HP.1⟩
    ·have hf:Pn.sofar l []=(Pn.basics l).map Pn.byte:=by rw[Pn.Md];unfold Pn.front;rw[aj (by have:=HM.1;omega),fC]
     have hfl:(Pn.sofar l []).length=m:=by rw[hf,bH,HM.1]
     have HF:=jP hf;have Ie:=jP hfl;clear hf hfl;go_wp2_with fail
     go_meet
     case rel=>exact⟨A',c',by rw[Ie.1],by rw[Ie.1,HF.1];exact HO.1,HB.1⟩
   case rest=>
    obtain⟨A1,c1,rfl,ho1,hb1⟩:=hcut;have hst:((Pn.st0 l).h:Int)=(m:Int):=by rw[<-HM.1];rfl
    have HST:=jP hst;have nT:=jP ho1;have HB1:=jP hb1;clear hst ho1 hb1 HO HB HM;have M_:=Pn.EI.start l;have HEI:=jP M_;clear M_;have hrp:∀ c∈l,c<=1114111:=fun c hc=>(Pn.yJ (Dv.1 c hc)).2;have HRP:=jP hrp;clear hrp;go_wp2_with fail
    go_loopw [4,7,8,9,10,11] (fun vo vh vf vn vd vb wy=>∃ (st:Pn.St) (n D:Int) (pre:List Int) (A:Option Addr) (c:Nat),Pn.EI l n 0 st D pre/\128<=n/\n<=1114112/\vh=.int .i64 (st.h:Int)/\vf=.bool st.first/\vn=.int .i64 n/\vd=.int .i64 D/\vb=.int .i64 st.b /\
      vo=.slice A (Pn.sofar l pre).length c/\wy.ownsRow w.heap.size 5 1 (.slice A (Pn.sofar l pre).length c) (Pn.sofar l pre).length (mW (Pn.sofar l pre))/\Below w.heap.size w wy) (fun _ _ _ vn _ _ _=>(1114113-intOf vn).toNat)
    case atStart=>exact⟨Pn.st0 l,128,0,[],A1,c1,HEI.1,by omega,by omega,by rw[HST.1],rfl,rfl,rfl,rfl,rfl,nT.1,HB1.1⟩
    case round=>
     obtain⟨st,n,D,pre,A2,c2,M_,n0,n1,rfl,rfl,rfl,rfl,rfl,rfl,ho2,hb2⟩:=hrel;have ao3:=hb2.size;have lG:=jP ho2;have HB2:=jP hb2;have d0:=M_.d0;have d1:=M_.bound GG (by omega);have hh0:=M_.hle;have HE2:=jP M_;clear ho2 hb2 M_ nT HB1 HEI;by_cases hh:st.h<l.length
     ·go_wp2_with fail
      go_loopw [12,50] (fun vm vi wx=>∃ k:Nat,k<=l.length/\vi=.int .i64 k/\vm=.int .i64 (Pn.mn l n k)/\wr=wx) (fun _ vi _=>l.length-(intOf vi).toNat)
      case atStart=>exact⟨0,by omega,rfl,rfl,rfl⟩
      case round=>
       obtain⟨k,hk,rfl,rfl,rfl⟩:=hrel;by_cases hlt:k<l.length
       ·obtain⟨b,off,cc,rfl,hb,hat,hcell⟩:=jZ (HR.1.below (HB2.1.mono hBw)) hlt;have hms:=Pn.UC (n:=n) hat;generalize Pn.mn l n k=mk at *;clear hat;by_cases hc:n<=cc
        ·rw[aj hc] at hms;have HMS:=jP hms;clear hms;have hmn:=@OT Tryz.prog;go_wp2
         go_roundw
         case rel=>exact⟨k+1,by omega,by go_num,by rw[HMS.1],trivial⟩
         case measure=>simp[intOf];omega
        ·rw[ah hc] at hms;have HMS:=jP hms;clear hms;go_wp2
         go_roundw
         case rel=>exact⟨k+1,by omega,by go_num,by rw[HMS.1],trivial⟩
         case measure=>simp[intOf];omega
       ·have hkl:k=l.length:=by omega
        subst hkl;clear hlt hk;obtain⟨q,cq,hq,hnq⟩:=HE2.1.some hh;have hm2:=Pn.WJ l n l.length q cq (ak.1 hq).1 hq hnq;have Fa:=HRP.1 cq (ay hq);have hm1:=(Pn.adI l n n1 l.length).1;have hm4:Pn.mn l n l.length<=1114111:=by omega
        have he3:=HE2.1.min (m:=Pn.mn l n l.length) (fun q c hq hc=>Pn.WJ l n l.length q c (ak.1 hq).1 hq hc) hm1;obtain⟨p0,p1⟩:=HE2.1.VQ (m:=Pn.mn l n l.length) GG (by omega) hm1 (by omega);have HE3:=jP he3;clear hq hnq hm2 Fa he3;generalize Pn.mn l n l.length=M at *;generalize hP:(M-n)*((st.h:Int)+1)=P at *;have HP:=jP hP;go_wp2_with fail
        go_loopw [4,7,8,10,11,71] (fun vo vh vf vd vb vi wx=>∃ (k:Nat) (st':Pn.St) (D':Int) (pre':List Int) (A:Option Addr) (c:Nat),k<=l.length/\vi=.int .i64 k/\Pn.EI l M k st' D' pre'/\vh=.int .i64 (st'.h:Int)/\vf=.bool st'.first/\vd=.int .i64 D'/\vb=.int .i64 st'.b /\
          vo=.slice A (Pn.sofar l pre').length c/\wx.ownsRow w.heap.size 5 1 (.slice A (Pn.sofar l pre').length c) (Pn.sofar l pre').length (mW (Pn.sofar l pre'))/\Below w.heap.size w wx) (fun _ _ _ _ _ vi _=>l.length-(intOf vi).toNat)
        case atStart=>exact⟨0,st,D+P,pre,A2,c2,by omega,rfl,HE3.1,rfl,rfl,rfl,rfl,rfl,lG.1,HB2.1⟩
        case round=>
         obtain⟨k,st',D',pre',A3,c3,hk,rfl,he4,rfl,rfl,rfl,rfl,rfl,ho3,hb3⟩:=hrel;have ace:=hb3.size;have mX:=jP ho3;have HB3:=jP hb3;have e0:=he4.d0;have e1:=he4.bound GG (by omega);have e2:=he4.hle;have e3:=he4.b0;have e4:=he4.b1;have e5:=he4.Wu GG HRP.1;have e6:=Pn.Yc l pre';have HE4:=jP he4;clear ho3 hb3 he4 lG HB2 HE2 HE3 HP hP p0 p1 d0 d1 hh0 hh;by_cases hlt:k<l.length
         ·obtain⟨b,off,cc,rfl,hb,hat,hcell⟩:=jZ (HR.1.below (HB3.1.mono hBw)) hlt;have HAT:=jP hat;clear hat;rcases Int.lt_trichotomy cc M with hc | hc | hc
          ·have Sj:=jP (HE4.1.lt HAT.1 hc);go_wp2
           go_roundw
           case rel=>exact⟨k+1,st',D'+1,pre',A3,c3,by omega,by go_num,Sj.1,rfl,rfl,rfl,rfl,rfl,mX.1,HB3.1⟩
           case measure=>simp[intOf];omega
          ·subst hc;obtain⟨st2,he5,q1,q2,q3⟩:=HE4.1.eq HAT.1;have Sj:=jP he5;have HQ1:=jP q1;have HQ2:=jP q2;have vK:=jP (show (st2.h:Int)=(st'.h:Int)+1 by rw[q3];rfl);clear he5 q1 q2 q3;have hap:=Pn.OJ l pre' (Pn.Bf D' st'.b);have KE:=jP hap;clear hap;go_wp2_with fail
           refine (put_any A3 c3 (Pn.sofar l pre') D' st'.b w.heap.size wr mX.1 ace e0 (by omega) e3 (by omega) (by omega)).mono ?_;rw[KE.1];rintro e w5 ⟨A5,c5,rfl,oK,hb5⟩;have lD:=jP oK;have nS:=jP (HB3.1.trans hb5);clear oK hb5;go_wp2_with fail
           refine (Nw D' ((st'.h:Int)+1) st'.first w5).mono ?_;rw[<-HQ1.1];rintro e w6 ⟨rfl,hw6⟩;subst hw6;go_wp2
           go_roundw
           case rel=>exact⟨k+1,st2,0,_,A5,c5,by omega,by go_num,Sj.1,by rw[vK.1],by rw[HQ2.1],rfl,rfl,rfl,lD.1,nS.1⟩
           case measure=>simp[intOf];omega
          ·have Sj:=jP (HE4.1.gt HAT.1 hc);have hne:(cc==M)=false:=by rw[aX];omega
           go_wp2
           go_roundw
           case rel=>exact⟨k+1,st',D',pre',A3,c3,by omega,by go_num,Sj.1,rfl,rfl,rfl,rfl,rfl,mX.1,HB3.1⟩
           case measure=>simp[intOf];omega
         ·have hkl:k=l.length:=by omega
          subst hkl;have Sj:=jP HE4.1.next;go_wp2
          go_roundw
          case rel=>exact⟨st',M+1,D'+1,pre',A3,c3,Sj.1,by omega,by omega,rfl,rfl,rfl,rfl,rfl,rfl,mX.1,HB3.1⟩
          case measure=>simp[intOf];omega
     ·have hdone:=HE2.1.done (by omega);have hcv:=Bg lG.1;have hfin:Pn.sofar l pre=Pn.enc l:=by rw[hdone];rfl
      have HF:=jP hfin;clear hdone hfin;go_wp2
      go_ret2
      exact⟨by rw[HE.1,<-HF.1];rfl,HB2.1⟩
def PD:Option (Int×List UInt8)->Value
 | none=>.tuple #[.int .i64 0,.string ByteArray.empty,.bool false]
 | some (v,r)=>.tuple #[.int .i64 v,.string (str r),.bool true]
theorem WG (s:ByteArray)(b:Int)(b0:0<=b)(b1:b<=1000)(hs:s.size<=1000000)(w:World) :
  Calls Tryz.prog 251 #[.string s,.int .i64 b] w fun e w'=>e=.returned (PD (Pn.rd (lst s) 0 0 1 b))/\∃ q,w'=w.drewN q:=by
 go_enter Tryz.func251,Tryz.ntmps251
 go_wp2_with fail
 go_loopw [7,8,9] (fun vv vw vj wr=>∃ (x y:Int) (j:Nat),vv=.int .i64 x/\vw=.int .i64 y/\vj=.int .i64 j/\j<=s.size/\0<=x/\x<=2147483648/\0<=y/\y<=2147483648 /\
   Pn.rd ((lst s).drop j) (j:Int) x y b=Pn.rd (lst s) 0 0 1 b/\w=wr) (fun _ _ vj _=>s.size-(intOf vj).toNat)
 case atStart=>exact⟨0,1,0,rfl,rfl,rfl,by omega,by omega,by omega,by omega,by omega,by simp,rfl⟩
 case round=>
  obtain⟨x,y,j,rfl,rfl,rfl,hj,x0,x1,y0,y1,hrd,rfl⟩:=hrel;have ny:=jP hrd;clear hrd;by_cases hlt:j<s.size
  ·have hdr:=x_ s j hlt;have HDR:=jP hdr;clear hdr;go_wp2_with fail
   refine (Wq s[j] _).mono ?_;rintro e w1 ⟨rfl,hw1⟩;subst hw1;cases hd:Pn.qW s[j] with
   | none=>
    have hbad:=Pn.Yv hd ((lst s).drop (j+1)) (j:Int) x y b;have HBAD:=jP hbad;clear hbad hd;go_wp2
    go_ret3
    refine⟨?_,0,rfl⟩;rw[<-ny.1,HDR.1,HBAD.1];rfl
   | some d=>
    obtain⟨g0,g1⟩:=Pn.U5 hd;have hlast:=Pn.KT hd ((lst s).drop (j+1)) (j:Int) x y b;have hmore:=Pn.KR hd ((lst s).drop (j+1)) (j:Int) x y b;clear hd;have m0:0<=d*y:=gV g0 y0;have m1:d*y<=35*2147483648:=Int.mul_le_mul g1 y1 y0 (by omega);have t0:=Pn.yG (j:Int) b;have t1:=Pn.yH (j:Int) b;have k0:0<=y*(36-Pn.lU (j:Int) b):=gV y0 (by omega);have k1:y*(36-Pn.lU (j:Int) b)<=2147483648*35:=Int.mul_le_mul y1 (by omega) (by omega) (by omega);have HTH:=jP (fun w=>TY (j:Int) b (by omega) (by omega) b0 (by omega) w);generalize Pn.lU (j:Int) b=t at *;have hmn:=@OT Tryz.prog;have hcap:Pn.cap (x+d*y)=min (x+d*y) 2147483648:=rfl;have HCAP:=jP hcap;clear hcap;have HEX:=jP (extract_drop s (j+1) (by omega));go_wp2_with fail
    refine (HTH.1 _).mono ?_;rintro e w1 ⟨rfl,hw1⟩;subst hw1;by_cases hc:d<t
    ·have HL:=jP (hlast hc);clear hlast hmore;have z1:IntKind.i64.wrap ((j:Int)+1)=(j:Int)+1:=aW _ (by omega);have z2:((j:Int)+1).toNat=j+1:=by omega
     have z3:(0:Int)<=(j:Int)+1:=by omega
     have z4:j+1<=s.size:=by omega
     go_wp2_with fail
     go_quiet (fail)
     clear z1 z2 z3;go_wp2
     go_ret3
     refine⟨?_,_,rfl⟩;rw[<-ny.1,HDR.1,HL.1,HCAP.1];show _=Ending.returned (.tuple #[.int .i64 (min (x+d*y) 2147483648),.string (str ((lst s).drop (j+1))),.bool true]);rw[<-HEX.1];rfl
    ·have HL:=jP (hmore (by omega));have hcap2:Pn.cap (y*(36-t))=min (y*(36-t)) 2147483648:=rfl;have aj1:=jP hcap2;clear hcap2;clear hlast hmore;go_wp2
     go_roundw
     case rel=>exact⟨min (x+d*y) 2147483648,min (y*(36-t)) 2147483648,j+1,rfl,rfl,by go_num,by omega,by omega,by omega,by omega,by omega,by rw[<-ny.1,HDR.1,HL.1,HCAP.1,aj1.1];rfl,trivial⟩
     case measure=>simp[intOf];omega
  ·have hd:(lst s).drop j=[]:=eU (by rw[jV];omega);have HD:=jP hd;clear hd;go_wp2
   go_ret3
   refine⟨?_,0,rfl⟩;rw[<-ny.1,HD.1];rfl
end Go.Proofs.YtkachcflifhgiaaGreatDoor
