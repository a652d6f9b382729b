/-   -/
import Derived.Test.YtkachcflifhgiaaGreatDoorM11
import Derived.Test.YtkachcflifhgiaaGreatDoorM01
import Derived.Test.YtkachcflifhgiaaGreatDoorM14
import Derived.Laws.BitsLemmas
set_option linter.unusedVariables false
set_option maxRecDepth 100000
set_option maxHeartbeats 16000000
namespace Go.Proofs.YtkachcflifhgiaaGreatDoor
open Go Go.RowKit Go.Shelf Go.Proofs
theorem acp (b:UInt8)(w:World):Calls Tryz.prog 245 #[.int .u8 (b.toNat:Int)] w fun e w'=>e=.returned (.tuple #[.int .i64 ((Ut.head b.toNat).1:Nat),.int .i64 ((Ut.head b.toNat).2:Nat)])/\w=w':=by
 have h1:b.toNat<256:=b.toNat_lt;generalize b.toNat=n at *;by_cases c1:n<=127
 ·have q0:(n:Int)<=127:=by omega
  have HH:=jP (show Ut.head n=(1,n) by unfold Ut.head;rw[aj (by omega)]);clear h1;go_enter Tryz.func245,Tryz.ntmps245
  go_wp2_with fail
  go_ret2
  rw[HH.1];exact⟨rfl,rfl⟩
 by_cases c2:192<=n/\n<=223
 ·have q0:¬(n:Int)<=127:=by omega
  have q1:192<=(n:Int):=by omega
  have q2:(n:Int)<=223:=by omega
  have am:=u8_and31 (x:=(n:Int)) (by omega) (by omega);have HH:=jP (show Ut.head n=(2,n%32) by unfold Ut.head;rw[ah (by omega),aj (by omega)]);clear h1;go_enter Tryz.func245,Tryz.ntmps245
  go_wp2_with fail
  go_ret2
  rw[HH.1];exact⟨rfl,rfl⟩
 by_cases c3:224<=n/\n<=239
 ·have q0:¬(n:Int)<=127:=by omega
  have q1:192<=(n:Int):=by omega
  have q2:¬(n:Int)<=223:=by omega
  have q3:224<=(n:Int):=by omega
  have q4:(n:Int)<=239:=by omega
  have am:=u8_and15 (x:=(n:Int)) (by omega) (by omega);have HH:=jP (show Ut.head n=(3,n%16) by unfold Ut.head;rw[ah (by omega),ah (by omega),aj (by omega)]);clear h1;go_enter Tryz.func245,Tryz.ntmps245
  go_wp2_with fail
  go_ret2
  rw[HH.1];exact⟨rfl,rfl⟩
 by_cases c4:240<=n/\n<=247
 ·have q0:¬(n:Int)<=127:=by omega
  have q1:192<=(n:Int):=by omega
  have q2:¬(n:Int)<=223:=by omega
  have q3:224<=(n:Int):=by omega
  have q4:¬(n:Int)<=239:=by omega
  have q5:240<=(n:Int):=by omega
  have q6:(n:Int)<=247:=by omega
  have am:=u8_and7 (x:=(n:Int)) (by omega) (by omega);have HH:=jP (show Ut.head n=(4,n%8) by unfold Ut.head;rw[ah (by omega),ah (by omega),ah (by omega),aj (by omega)]);clear h1;go_enter Tryz.func245,Tryz.ntmps245
  go_wp2_with fail
  go_ret2
  rw[HH.1];exact⟨rfl,rfl⟩
 by_cases c5:128<=n/\n<=191
 ·have q0:¬(n:Int)<=127:=by omega
  have q1:¬192<=(n:Int):=by omega
  have q2:¬224<=(n:Int):=by omega
  have q3:¬240<=(n:Int):=by omega
  have HH:=jP (show Ut.head n=(0,0) by unfold Ut.head;rw[ah (by omega),ah (by omega),ah (by omega),ah (by omega)]);clear h1;go_enter Tryz.func245,Tryz.ntmps245
  go_wp2_with fail
  go_ret2
  rw[HH.1];exact⟨rfl,rfl⟩
 ·have q0:¬(n:Int)<=127:=by omega
  have q1:192<=(n:Int):=by omega
  have q2:¬(n:Int)<=223:=by omega
  have q3:224<=(n:Int):=by omega
  have q4:¬(n:Int)<=239:=by omega
  have q5:240<=(n:Int):=by omega
  have q6:¬(n:Int)<=247:=by omega
  have HH:=jP (show Ut.head n=(0,0) by unfold Ut.head;rw[ah (by omega),ah (by omega),ah (by omega),ah (by omega)]);clear h1;go_enter Tryz.func245,Tryz.ntmps245
  go_wp2_with fail
  go_ret2
  rw[HH.1];exact⟨rfl,rfl⟩
theorem alj (c x:Nat)(hc:c<2097152)(hx:x<64):bits .or .i64 ((c*64:Nat):Int) (x:Int)=((c*64+x:Nat):Int):=by
 have p40:(2:Int) ^ 40=1099511627776:=by decide
 have p6:(2:Int) ^ 6=64:=by decide
 have:=bits_join .i64 40 (by decide) (fun n h0 h1=>aW _ (by omega)) 6 ((c*64:Nat):Int) (x:Int) (by omega) (by omega) (by omega) (by omega) (by omega) (by omega);rw[this];omega
theorem Ut.acW {c:Nat}{b:UInt8}{r:List UInt8}(h:b.toNat<128\/191<b.toNat):Ut.cont c (b::r)=none:=by unfold Ut.cont;rw[aj h]
theorem Ut.af7 {c:Nat}{b:UInt8}{r:List UInt8}(h:¬(b.toNat<128\/191<b.toNat)):Ut.cont c (b::r)=Ut.cont (c*64+b.toNat%64) r:=by
 conv=>lhs;unfold Ut.cont
 rw[ah h]
theorem Ut.afx (n:Nat):(Ut.head n).2<128/\((Ut.head n).1≠1->(Ut.head n).2<32):=by
 unfold Ut.head;split
 ·simp only;omega
 ·split
  ·simp only;omega
  ·split
   ·simp only;omega
   ·split<;>simp only<;>omega
theorem TD (s:ByteArray)(k n:Nat)(h:k+n<=s.size):lst (s.extract k (k+n))=((lst s).drop k).take n:=by
 unfold lst;rw[ByteArray.data_extract,Array.toList_extract];show List.take (k+n-k) (List.drop k s.data.toList)=_;rw[Nat.add_sub_cancel_left]
theorem first_any (s:ByteArray)(k:Nat)(hk:k<s.size)(hs:s.size<=1000000)(w:World):Calls Tryz.prog 194 #[.string s,.int .i64 (k:Int)] w fun e w'=>e=.returned (.tuple #[.int .i64 ((Ut.first ((lst s).drop k)).1:Nat),.int .i64 ((Ut.first ((lst s).drop k)).2:Nat)])/\Below w.heap.size w w':=by
 have hd:=x_ s k hk;have hrl:((lst s).drop (k+1)).length=s.size-(k+1):=by rw[bF,jV]
 have wI:=Ut.JU s[k] ((lst s).drop (k+1));rw[<-hd,hrl] at wI;have HF:=jP wI;generalize Ut.first ((lst s).drop k)=ff at *;have HHD:=jP (fun w=>acp s[k] w);have hbd:=Ut.afx s[k].toNat;have hle:=Ut.UW s[k].toNat;generalize hhd:Ut.head s[k].toNat=hd0 at *;obtain⟨n,c0⟩:=hd0;simp only at HF HHD hbd hle;clear wI hd hrl hhd;go_enter Tryz.func194,Tryz.ntmps194
 go_wp2_with fail
 refine (HHD.1 _).mono ?_;rintro e w1 ⟨rfl,rfl⟩;clear HHD;by_cases hn0:n=0
 ·have HX:=jP (show ff=(0,0) by rw[HF.1,aj (.inl hn0)]);subst hn0;clear HF;go_wp2_with fail
  go_ret2
  rw[HX.1];exact⟨rfl,ai _ _⟩
 have hnb:((n:Int)==0)=false:=by rw[aX];omega
 by_cases hlong:s.size-k<n
 ·have HX:=jP (show ff=(0,0) by rw[HF.1,aj (.inr (by omega))]);have hg:(s.size:Int)-(k:Int)<(n:Int):=by omega
  clear HF hlong;go_wp2_with fail
  go_ret2
  rw[HX.1];exact⟨rfl,ai _ _⟩
 have hg:¬(s.size:Int)-(k:Int)<(n:Int):=by omega
 have hxl:=TD s (k+1) (n-1) (by omega);rw[show k+1+(n-1)=k+n by omega] at hxl;have hxs:(s.extract (k+1) (k+n)).size=n-1:=by rw[<-jV,hxl,bZ,bF,jV];omega
 obtain⟨cc,w2,hcv,hb2,hsz,hcc,hcells,hfz⟩:=uw (s.extract (k+1) (k+n)) w;rw[hxs] at hcv;rw[hxl] at hcells;have HE:=jP hcells;have HB2:=jP hb2;have HF2:=jP (show ff=match Ut.cont c0 (((lst s).drop (k+1)).take (n-1)) with
   | none=>(0,0)
   | some c=>if Gm.kS (c:Int)=(n:Nat) then (c,n) else (0,0) by rw[HF.1,ah (by omega)];rfl)
 have hml:(((lst s).drop (k+1)).take (n-1)).length=n-1:=by rw[bZ,bF,jV];omega
 have vM:=jP hml;clear HF hcells hb2 hfz hxl hxs hml;generalize ((lst s).drop (k+1)).take (n-1)=M at *;have t1:((k:Int)+1).toNat=k+1:=by omega
 have t2:((k:Int)+(n:Int)).toNat=k+n:=by omega
 have t3:k+n<=s.size:=by omega
 have t4:(k:Int)+1<=(k:Int)+(n:Int):=by omega
 have t5:k+1<=k+n:=by omega
 go_wp2_with fail
 clear hcv;go_loop [7,36] (fun vc vi=>∃ (i c:Nat),i<=n-1/\vi=.int .i64 i/\vc=.int .i64 c/\Ut.cont c0 M=Ut.cont c (M.drop i)/\(n≠1->c<32*64 ^ i)) (fun _ vi=>n-1-(intOf vi).toNat)
 case atStart=>exact⟨0,c0,by omega,rfl,rfl,rfl,fun h=>by have:=hbd.2 h;omega⟩
 case round=>
  obtain⟨i,c,hi,rfl,rfl,hcm,hcb⟩:=hrel;have HCM:=jP hcm;have Gf:=jP hcb;clear hcm hcb;by_cases hlt:i<n-1
  ·have hin:i<M.length:=by rw[vM.1];exact hlt
   have hat:M[i]?=some M[i]:=au hin;have hcell:=HE.1 i _ hat;have hdr:M.drop i=M[i]::M.drop (i+1):=(List.getElem_cons_drop hin).symm;have HDR:=jP hdr;generalize M[i]=b at *;have b1:b.toNat<256:=b.toNat_lt;have hcb:=Gf.1 (by omega);have h64:64 ^ i<=64 ^ 2:=Nat.pow_le_pow_right (by omega) (by omega);have hcs:c<131072:=by
    have:32*64 ^ i<=32*64 ^ 2:=Nat.mul_le_mul_left _ h64;omega
   have hpw:64 ^ (i+1)=64 ^ i*64:=Nat.pow_succ ..;have HP:=jP (show c*64+b.toNat%64<32*64 ^ (i+1) by rw[hpw];omega);have HK1:=jP (Ut.acW (c:=c) (b:=b) (r:=M.drop (i+1)));have xe:=jP (Ut.af7 (c:=c) (b:=b) (r:=M.drop (i+1)));clear hat hdr hin h64 hpw hcb;generalize hbn:b.toNat=bn at *;clear hbn;by_cases hlo:bn<128
   ·have HX:=jP (show ff=(0,0) by rw[HF2.1,HCM.1,HDR.1,HK1.1 (.inl hlo)]);have q1:(bn:Int)<128:=by omega
    clear HK1 xe;go_wp2_with fail
    go_ret2
    rw[HX.1];exact⟨rfl,HB2.1⟩
   ·have q1:¬(bn:Int)<128:=by omega
    by_cases hhi:191<bn
    ·have HX:=jP (show ff=(0,0) by rw[HF2.1,HCM.1,HDR.1,HK1.1 (.inr hhi)]);have q2:191<(bn:Int):=by omega
     clear HK1 xe;go_wp2_with fail
     go_ret2
     rw[HX.1];exact⟨rfl,HB2.1⟩
    ·have q2:¬191<(bn:Int):=by omega
     have HCN:=jP (xe.1 (by omega));have a1:=u8_and63 (x:=(bn:Int)) (by omega) (by omega);have a2:=alj c (bn%64) (by omega) (by omega);have a3:(((bn%64:Nat):Int))=(bn:Int)%64:=by omega
     have a4:((c*64:Nat):Int)=(c:Int)*64:=by omega
     rw[a3,a4] at a2;have A5:=jP (show ((c*64+bn%64:Nat):Int)=(c:Int)*64+(bn:Int)%64 by omega);rw[A5.1] at a2;clear HK1 xe a3 a4;go_wp2_with fail
     go_round
     case rel=>exact⟨i+1,c*64+bn%64,by omega,by go_num,by rw[A5.1],by rw[HCM.1,HDR.1,HCN.1],fun _=>HP.1⟩
     case measure=>simp[intOf];omega
  ·obtain rfl:i=n-1:=by omega
   have NV:=jP (show Ut.cont c0 M=some c by rw[HCM.1,eU (by rw[vM.1];omega)];rfl);have HX:=jP (show ff=if Gm.kS (c:Int)=(n:Nat) then (c,n) else (0,0) by rw[HF2.1,NV.1]);have wC:=jP (fun w=>Ai (c:Int) w);have q1:¬((n-1:Nat):Int)<((n-1:Nat):Int):=by omega
   generalize E_:Gm.kS (c:Int)=u at *;clear E_;go_wp2_with fail
   refine (wC.1 _).mono ?_;rintro e w3 ⟨rfl,hw3⟩;subst hw3;by_cases hu:u=(n:Int)
   ·have HY:=jP (show ff=(c,n) by rw[HX.1,aj hu]);have q3:(u != (n:Int))=false:=by rw[hu];simp
    clear hu;go_wp2_with fail
    go_ret2
    rw[HY.1];exact⟨rfl,HB2.1⟩
   ·have HY:=jP (show ff=(0,0) by rw[HX.1,ah hu]);have q3:(u != (n:Int))=true:=by simpa using hu
    clear hu;go_wp2_with fail
    go_ret2
    rw[HY.1];exact⟨rfl,HB2.1⟩
theorem BN {w:World}{z:Nat}(hz:w.heap.size=z)(cs:Array Value)(ys:List UInt8)(h:cs.toList=mW ys)(hm:ys.length<=1000):Rd (w.alloc (.cells cs 5)) (z+1) 1 (some ⟨z,0,none⟩) ys.length (mW ys):=by
 subst hz;have hs:cs.size=ys.length:=by rw[<-jd,h,qY]
 have:=Rd.kX (rZ w 0 5 cs ys.length hs (by unfold maxLen;omega) (iY _));rw[h] at this;simpa using this
theorem aaS (n:Int)(h0:0<=n)(h1:n<2 ^ 40):IntKind.i64.wrap n=n:=aW _ (by (have p40:(2:Int) ^ 40=1099511627776:=by decide);omega)
theorem wX {x:Int}(h0:0<=x)(h1:x<1099511627776):bits .and .i64 x 63=x%64:=bits_mask .i64 40 (by decide) aaS 6 (by decide) x h0 h1
theorem yh {x y:Int}(hx0:0<=x)(hx:x%64=0)(hx1:x<1099511627776)(hy0:0<=y)(hy:y<64):bits .or .i64 x y=x+y:=by
 have p40:(2:Int) ^ 40=1099511627776:=by decide
 have p6:(2:Int) ^ 6=64:=by decide
 exact bits_join .i64 40 (by decide) aaS 6 x y (by omega) (by omega) (by omega) (by omega) (by omega) (by omega)
theorem UR {x y:Int}(hx0:0<=x)(hx:x%16=0)(hx1:x<1099511627776)(hy0:0<=y)(hy:y<16):bits .or .i64 x y=x+y:=by
 have p40:(2:Int) ^ 40=1099511627776:=by decide
 have p6:(2:Int) ^ 4=16:=by decide
 exact bits_join .i64 40 (by decide) aaS 4 x y (by omega) (by omega) (by omega) (by omega) (by omega) (by omega)
theorem aaU (A:Option Addr)(c:Nat)(s:List UInt8)(v:Int)(base:Nat)(w:World)(ho:w.ownsRow base 5 1 (.slice A s.length c) s.length (mW s))(hbase:base<=w.heap.size)
  (hv:¬Gm.kS v=0) (hl:s.length<=1000000):Calls Tryz.prog 126 #[.slice A s.length c,.int .i64 v] w (ad9 base (s++Ut.enc1 v) w):=by
 obtain⟨v0,v1,_⟩:=Ut.wO hv;have hu:=Ut.Ov (Ut.wO hv);have wC:=jP (fun w=>Ai v w);have HO:=jP ho;obtain⟨n,rfl⟩:∃ n:Nat,v=(n:Int):=⟨v.toNat,by omega⟩;generalize hu0:Gm.kS (n:Int)=u at *;generalize hm:s.length=m at *;have HL:=jP hm;clear ho hm hu0;by_cases a0:(n:Int)<=127
 ·rw[aj a0] at hu;have HE:=jP (show Ut.enc1 (n:Int)=[Ut.u8 n] by unfold Ut.enc1;simp only[bU];rw[aj a0]);subst hu;go_enter Tryz.func126,Tryz.ntmps126
  go_wp2_with fail
  refine (wC.1 _).mono ?_;rintro e w1 ⟨rfl,rfl⟩;have HB:=jP (show [Value.int .u8 ((n:Int))]=mW [Ut.u8 n] by simp[mW];rw[Ut.rW _ (by omega)]);have Ce:=jP (BN (w:=w1) rfl #[.int .u8 ((n:Int))] _ HB.1 (by simp));go_wp2_with (at_builtin;refine rG (by rfl) _ _ rfl (base:=base) rfl (HO.1.alloc _) rfl Ce.1 (by simp<;>omega) (by simp<;>omega) ?_)
  intro A4 c4 w4 kQ hg4 hc4;have HB4:=jP (own_below HO.1 (ai _ _) _ hg4 hbase);have lC:=jP kQ;clear kQ hg4 hc4;go_wp2
  go_ret
  rw[HE.1];have e1:(s++[Ut.u8 n]).length=m+1:=by rw[aA,HL.1];rfl
  exact⟨A4,c4,by rw[e1];rfl,by rw[e1];exact lC.1,HB4.1⟩
 rw[ah a0] at hu;by_cases a1:(n:Int)<=2047
 ·rw[aj a1] at hu;have HE:=jP (show Ut.enc1 (n:Int)=[Ut.u8 (192+n/64),Ut.u8 (128+n%64)] by unfold Ut.enc1;simp only[bU];rw[ah a0,aj a1]);subst hu;have b0:=wX (x:=(n:Int)) (by omega) (by omega);have b1:=yh (x:=128) (y:=(n:Int)%64) (by omega) (by omega) (by omega) (by omega) (by omega);have b6:=yh (x:=192) (y:=(n:Int)/64) (by omega) (by omega) (by omega) (by omega) (by omega);go_enter Tryz.func126,Tryz.ntmps126
  go_wp2_with fail
  refine (wC.1 _).mono ?_;rintro e w1 ⟨rfl,rfl⟩;have HB:=jP (show [Value.int .u8 ((192+(n:Int)/64)),Value.int .u8 ((128+(n:Int)%64))]=mW [Ut.u8 (192+n/64),Ut.u8 (128+n%64)] by simp[mW];refine⟨?_,?_⟩<;>rw[Ut.rW _ (by omega)]<;>omega);have Ce:=jP (BN (w:=w1) rfl #[.int .u8 ((192+(n:Int)/64)),.int .u8 ((128+(n:Int)%64))] _ HB.1 (by simp));go_wp2_with (at_builtin;refine rG (by rfl) _ _ rfl (base:=base) rfl (HO.1.alloc _) rfl Ce.1 (by simp<;>omega) (by simp<;>omega) ?_)
  intro A4 c4 w4 kQ hg4 hc4;have HB4:=jP (own_below HO.1 (ai _ _) _ hg4 hbase);have lC:=jP kQ;clear kQ hg4 hc4;go_wp2
  go_ret
  rw[HE.1];have e1:(s++[Ut.u8 (192+n/64),Ut.u8 (128+n%64)]).length=m+2:=by rw[aA,HL.1];rfl
  exact⟨A4,c4,by rw[e1];rfl,by rw[e1];exact lC.1,HB4.1⟩
 rw[ah a1] at hu;by_cases a2:(n:Int)<=65535
 ·rw[aj a2] at hu;have HE:=jP (show Ut.enc1 (n:Int)=[Ut.u8 (224+n/4096),Ut.u8 (128+n/64%64),Ut.u8 (128+n%64)] by unfold Ut.enc1;simp only[bU];rw[ah a0,ah a1,aj a2]);subst hu;have b0:=wX (x:=(n:Int)) (by omega) (by omega);have b1:=yh (x:=128) (y:=(n:Int)%64) (by omega) (by omega) (by omega) (by omega) (by omega);have b2:=wX (x:=(n:Int)/64) (by omega) (by omega);have b3:=yh (x:=128) (y:=(n:Int)/64%64) (by omega) (by omega) (by omega) (by omega) (by omega);have b6:=UR (x:=224) (y:=(n:Int)/4096) (by omega) (by omega) (by omega) (by omega) (by omega);go_enter Tryz.func126,Tryz.ntmps126
  go_wp2_with fail
  refine (wC.1 _).mono ?_;rintro e w1 ⟨rfl,rfl⟩;have HB:=jP (show [Value.int .u8 ((224+(n:Int)/4096)),Value.int .u8 ((128+(n:Int)/64%64)),Value.int .u8 ((128+(n:Int)%64))]=mW [Ut.u8 (224+n/4096),Ut.u8 (128+n/64%64),Ut.u8 (128+n%64)] by simp[mW];refine⟨?_,?_,?_⟩<;>rw[Ut.rW _ (by omega)]<;>omega);have Ce:=jP (BN (w:=w1) rfl #[.int .u8 ((224+(n:Int)/4096)),.int .u8 ((128+(n:Int)/64%64)),.int .u8 ((128+(n:Int)%64))] _ HB.1 (by simp));go_wp2_with (at_builtin;refine rG (by rfl) _ _ rfl (base:=base) rfl (HO.1.alloc _) rfl Ce.1 (by simp<;>omega) (by simp<;>omega) ?_)
  intro A4 c4 w4 kQ hg4 hc4;have HB4:=jP (own_below HO.1 (ai _ _) _ hg4 hbase);have lC:=jP kQ;clear kQ hg4 hc4;go_wp2
  go_ret
  rw[HE.1];have e1:(s++[Ut.u8 (224+n/4096),Ut.u8 (128+n/64%64),Ut.u8 (128+n%64)]).length=m+3:=by rw[aA,HL.1];rfl
  exact⟨A4,c4,by rw[e1];rfl,by rw[e1];exact lC.1,HB4.1⟩
 rw[ah a2] at hu;have HE:=jP (show Ut.enc1 (n:Int)=[Ut.u8 (240+n/262144),Ut.u8 (128+n/4096%64),Ut.u8 (128+n/64%64),Ut.u8 (128+n%64)] by unfold Ut.enc1;simp only[bU];rw[ah a0,ah a1,ah a2]);subst hu;have b0:=wX (x:=(n:Int)) (by omega) (by omega);have b1:=yh (x:=128) (y:=(n:Int)%64) (by omega) (by omega) (by omega) (by omega) (by omega);have b2:=wX (x:=(n:Int)/64) (by omega) (by omega);have b3:=yh (x:=128) (y:=(n:Int)/64%64) (by omega) (by omega) (by omega) (by omega) (by omega);have b4:=wX (x:=(n:Int)/4096) (by omega) (by omega);have b5:=yh (x:=128) (y:=(n:Int)/4096%64) (by omega) (by omega) (by omega) (by omega) (by omega);have b6:=UR (x:=240) (y:=(n:Int)/262144) (by omega) (by omega) (by omega) (by omega) (by omega);go_enter Tryz.func126,Tryz.ntmps126
 go_wp2_with fail
 refine (wC.1 _).mono ?_;rintro e w1 ⟨rfl,rfl⟩;have HB:=jP (show [Value.int .u8 ((240+(n:Int)/262144)),Value.int .u8 ((128+(n:Int)/4096%64)),Value.int .u8 ((128+(n:Int)/64%64)),Value.int .u8 ((128+(n:Int)%64))]=mW [Ut.u8 (240+n/262144),Ut.u8 (128+n/4096%64),Ut.u8 (128+n/64%64),Ut.u8 (128+n%64)] by simp[mW];refine⟨?_,?_,?_,?_⟩<;>rw[Ut.rW _ (by omega)]<;>omega);have Ce:=jP (BN (w:=w1) rfl #[.int .u8 ((240+(n:Int)/262144)),.int .u8 ((128+(n:Int)/4096%64)),.int .u8 ((128+(n:Int)/64%64)),.int .u8 ((128+(n:Int)%64))] _ HB.1 (by simp));go_wp2_with (at_builtin;refine rG (by rfl) _ _ rfl (base:=base) rfl (HO.1.alloc _) rfl Ce.1 (by simp<;>omega) (by simp<;>omega) ?_)
 intro A4 c4 w4 kQ hg4 hc4;have HB4:=jP (own_below HO.1 (ai _ _) _ hg4 hbase);have lC:=jP kQ;clear kQ hg4 hc4;go_wp2
 go_ret
 rw[HE.1];have e1:(s++[Ut.u8 (240+n/262144),Ut.u8 (128+n/4096%64),Ut.u8 (128+n/64%64),Ut.u8 (128+n%64)]).length=m+4:=by rw[aA,HL.1];rfl
 exact⟨A4,c4,by rw[e1];rfl,by rw[e1];exact lC.1,HB4.1⟩
theorem Ut.acK {l:List Int}(h:4096<l.length):Ut.enc l=([],7):=by unfold Ut.enc;rw[aj h]
theorem Ut.afT {l:List Int}(h:¬4096<l.length){k:Nat}{c:Int}(hk:l[k]?=some c)(hc:Gm.kS c=0):Ut.enc l=([],3):=by
 unfold Ut.enc;rw[ah h,aj];rw[dP];exact⟨c,ay hk,by simpa using hc⟩
theorem Ut.acL {l:List Int}(h:¬4096<l.length)(ha:∀ c∈l,¬Gm.kS c=0):Ut.enc l=(Ut.nX l,0):=by
 unfold Ut.enc;rw[ah h,ah];rw[dP];rintro⟨c,hc,h2⟩;exact ha c hc (by simpa using h2)
theorem Ut.ZN {l:List Int}{k:Nat}{c:Int}(h:l[k]?=some c):Ut.nX (l.take (k+1))=Ut.nX (l.take k)++Ut.enc1 c:=by
 obtain⟨q1,q2⟩:=ak.1 h;rw[az q1,q2,Ut.TE];simp[Ut.nX]
theorem Gm.aeO (c:Int):(Gm.sc c=true/\¬Gm.kS c=0)\/(Gm.sc c=false/\Gm.kS c=0):=by
 rw[Gm.TT];cases Gm.sc c with
 | true=>
  left;refine⟨rfl,?_⟩;rw[aj rfl];repeat' split
  all_goals decide
 | false=>right;exact⟨rfl,by simp⟩
theorem Il (A:Option Addr)(n c:Nat)(l:List Int)(B:Nat)(w:World)(hr:Rd w B 1 A n (ints l))(hBw:B<=w.heap.size)(hn0:n<=1000000000000000) :
  Calls Tryz.prog 76 #[.slice A n c] w fun e w'=>e=.returned (.tuple #[.string (str (Ut.enc l).1),.int .i64 (Ut.enc l).2])/\Below w.heap.size w w':=by
 have hn:l.length=n:=by have:=hr.1;rw[kH] at this;omega
 have HR:=jP hr;have HN:=jP hn;clear hr hn;by_cases h4:4096<n
 ·have HX:=jP (Ut.acK (l:=l) (by rw[HN.1];exact h4));have Hl:(4096:Int)<(n:Int):=by omega
  go_enter Tryz.func76,Tryz.ntmps76
  go_wp2_with fail
  go_ret2
  rw[HX.1];exact⟨rfl,ai _ _⟩
 have Hl:¬(4096:Int)<(n:Int):=by omega
 have hne:¬4096<l.length:=by rw[HN.1];exact h4
 have Vx:=jP hne;clear hne;go_enter Tryz.func76,Tryz.ntmps76
 go_wp2_with fail
 go_loopw [4,12] (fun vo vi wr=>∃ (k m:Nat) (A:Option Addr) (c:Nat),k<=n/\vi=.int .i64 k/\vo=.slice A m c/\m=(Ut.nX (l.take k)).length/\m<=4*k/\wr.ownsRow w.heap.size 5 1 (.slice A m c) m (mW (Ut.nX (l.take k)))/\(∀ c∈l.take k,¬Gm.kS c=0)/\Below w.heap.size w wr) (fun _ vi _=>n-(intOf vi).toNat)
 case atStart=>exact⟨0,0,none,0,by omega,rfl,rfl,rfl,by omega,aH _ _ _ _,by simp,ai _ _⟩
 case round=>
  obtain⟨k,m,A2,c2,hk,rfl,rfl,hm,hm4,ho,ha,hb⟩:=hrel;have HO:=jP ho;have HB:=jP hb;have HA:=jP ha;have HM:=jP hm;have hsw:=hb.size;clear ho hb ha hm;by_cases hlt:k<n
  ·obtain⟨b,off,cc,rfl,hbB,hat,hcell⟩:=jZ (HR.1.below (HB.1.mono hBw)) hlt;have HES:=jP (Ut.ZN hat);have Dv:=jP (fun w=>Jo cc w);have xH:=jP (fun hc=>Ut.afT Vx.1 hat hc);have HAS:=jP (fun (hc:¬Gm.kS cc=0)=>show ∀ c∈l.take (k+1),¬Gm.kS c=0 by
    obtain⟨q1,q2⟩:=ak.1 hat;rw[az q1,q2];intro c hc2;rcases aO.1 hc2 with h | h
    ·exact HA.1 c h
    ·simp at h;subst h;exact hc)
   clear hat;rcases Gm.aeO cc with ⟨hsc,E_⟩ | ⟨hsc,E_⟩
   ·rw[hsc] at Dv;have Sz:=jP (HAS.1 E_);have hpc:=aaU A2 c2 (Ut.nX (l.take k)) cc w.heap.size wr (by rw[<-HM.1];exact HO.1) hsw E_ (by rw[<-HM.1];omega);have hel:=Ut.U4 cc;have HEL:=jP (show (Ut.nX (l.take (k+1))).length=m+(Ut.enc1 cc).length by rw[HES.1,aA,HM.1]);rw[<-HES.1,<-HM.1] at hpc;have HPC:=jP hpc;clear hpc E_ HAS xH hsc;generalize (Ut.enc1 cc).length=q at *;generalize hgo:Ut.nX (l.take (k+1))=out at *;have HGO:=jP hgo;clear hgo;go_wp2_with fail
    refine (Dv.1 _).mono ?_;rintro e w3 ⟨rfl,hw3⟩;subst hw3;clear hcell;go_wp2_with fail
    refine HPC.1.mono ?_;rintro e w4 ⟨A4,c4,rfl,kQ,hb4⟩;rw[HEL.1] at kQ ⊢;have lC:=jP kQ;have HB4:=jP (HB.1.trans hb4);clear kQ hb4;go_wp2
    go_roundw
    case rel=>exact⟨k+1,m+q,A4,c4,by omega,by go_num,rfl,by rw[HGO.1];exact HEL.1.symm,by omega,by rw[HGO.1];exact lC.1,Sz.1,HB4.1⟩
    case measure=>simp[intOf];try omega
   ·rw[hsc] at Dv;have HX:=jP (xH.1 E_);clear xH HAS E_ hsc;go_wp2_with fail
    refine (Dv.1 _).mono ?_;rintro e w3 ⟨rfl,hw3⟩;subst hw3;clear hcell;go_wp2_with fail
    go_ret2
    rw[HX.1];exact⟨rfl,HB.1⟩
  ·obtain rfl:k=n:=by omega
   have htk:l.take k=l:=aP (by rw[HN.1];omega);rw[htk] at HO HA HM;have HX:=jP (Ut.acL Vx.1 HA.1);have ho:=HO.1;generalize Ut.nX l=out at *;have hcv:=Bg ho;clear ho;go_wp2_with fail
   go_ret2
   rw[HX.1];exact⟨rfl,HB.1⟩
end Go.Proofs.YtkachcflifhgiaaGreatDoor
