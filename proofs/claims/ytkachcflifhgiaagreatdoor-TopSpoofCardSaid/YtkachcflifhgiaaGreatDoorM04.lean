/-       -/
import Derived.Test.YtkachcflifhgiaaGreatDoorProg
import Derived.Test.YtkachcflifhgiaaGreatDoorM03
import Derived.Test.YtkachcflifhgiaaGreatDoorM01
import Derived.IntWalk
import Derived.Test.YtkachcflifhgiaaGreatDoorM02
set_option linter.unusedVariables false
set_option maxRecDepth 100000
set_option maxHeartbeats 16000000
namespace Go.Proofs.YtkachcflifhgiaaGreatDoor
open Go Go.RowKit
theorem Gq (a b:Int)(h:0<=a):a.tdiv b=a/b:=Int.tdiv_eq_ediv_of_nonneg h
theorem Pn.Eg {d p:Int}{first:Bool}(h:d<0\/1099511627776<d\/p<1\/4096<p):Pn.adapt d p first=0:=by
 unfold Pn.adapt Pn.Kq;rw[aj (by simpa using h)]
theorem Pn.aao {d p:Int}{first:Bool}(h0:0<=d)(h1:d<=1099511627776)(h2:1<=p)(h3:p<=4096):Pn.adapt d p first=Pn.pY 20 (Pn.tH d p first) 0:=by
 unfold Pn.adapt Pn.Kq;rw[ah (by simp;omega)]
theorem Pn.UJ (x:Int)(h0:0<=x):0<=36*x/(x+38)/\36*x/(x+38)<36:=
 ⟨iL (by omega) (by omega),Int.ediv_lt_of_lt_mul (by omega) (by omega)⟩
theorem Nw (d p:Int)(first:Bool)(w:World) :
  Calls Tryz.prog 239 #[.int .i64 d,.int .i64 p,.bool first] w fun e w'=>e=.returned (.int .i64 (Pn.adapt d p first))/\w=w':=by
 by_cases c1:d<0
 ·rw[Pn.Eg (.inl c1)];go_enter Tryz.func239,Tryz.ntmps239
  go_wp2
  go_ret
  exact⟨rfl,rfl⟩
 have d0:0<=d:=by omega
 by_cases c2:1099511627776<d
 ·rw[Pn.Eg (.inr (.inl c2))];go_enter Tryz.func239,Tryz.ntmps239
  go_wp2
  go_ret
  exact⟨rfl,rfl⟩
 have d1:d<=1099511627776:=by omega
 by_cases c3:p<1
 ·rw[Pn.Eg (.inr (.inr (.inl c3)))];go_enter Tryz.func239,Tryz.ntmps239
  go_wp2
  go_ret
  exact⟨rfl,rfl⟩
 have p0:1<=p:=by omega
 by_cases c4:4096<p
 ·rw[Pn.Eg (.inr (.inr (.inr c4)))];go_enter Tryz.func239,Tryz.ntmps239
  go_wp2
  go_ret
  exact⟨rfl,rfl⟩
 have p1:p<=4096:=by omega
 have hst:=Pn.Ko d p first d0 d1 p0
 rw[Pn.aao d0 d1 p0 p1];have hdef:Pn.tH d p first=(if first then d/700 else d/2)+(if first then d/700 else d/2)/p:=rfl
 have hp0:¬p=0:=by omega
 clear c1 c2 c3 c4;cases first
 ·have hx:Pn.tH d p false=d/2+d/2/p:=hdef;have t1:=Gq d 2 d0;have e0:0<=d/2:=by omega
  have t2:=Gq (d/2) p e0;have hq0:0<=d/2/p:=iL e0 (by omega);have hq1:d/2/p<=d/2:=jG p e0;have HX:=jP hx;have HT1:=jP t1;have HT2:=jP t2;clear hx t1 t2 hdef;go_enter Tryz.func239,Tryz.ntmps239
  go_wp2_with fail
  go_loop [0,7] (fun vd vk=>∃ x k:Int,vd=.int .i64 x/\vk=.int .i64 k/\0<=x/\0<=k/\k+36*x<=39582418599936/\Pn.pY 20 x k=Pn.pY 20 (Pn.tH d p false) 0) (fun vd _=>(intOf vd).toNat)
  case atStart=>exact⟨_,0,rfl,rfl,by omega,by omega,by omega,by rw[HX.1]⟩
  case round=>
   obtain⟨x,k,rfl,rfl,x0,k0,hk,he⟩:=hrel;have HE:=jP he;clear he;clear d0 d1 p0 p1 hp0 hst e0 hq0 hq1;by_cases hc:455<x
   ·have hs:=Pn.Hw x k hc (by omega);have HS:=jP hs;clear hs;have x1:0<=x/35:=by omega
    go_wp2
    go_round
    case rel=>exact⟨x/35,k+36,rfl,rfl,by omega,by omega,by omega,by rw[<-HS.1];exact HE.1⟩
    case measure=>simp[intOf];omega
   ·have hs:=Pn.Kr x k hc;have HS:=jP hs;clear hs;obtain⟨l0,l1⟩:=Pn.UJ x x0;go_wp2
    go_ret
    exact⟨by rw[<-HE.1,HS.1];rfl,rfl⟩
 ·have hx:Pn.tH d p true=d/700+d/700/p:=hdef;have t1:=Gq d 700 d0;have e0:0<=d/700:=by omega
  have t2:=Gq (d/700) p e0;have hq0:0<=d/700/p:=iL e0 (by omega);have hq1:d/700/p<=d/700:=jG p e0;have HX:=jP hx;have HT1:=jP t1;have HT2:=jP t2;clear hx t1 t2 hdef;go_enter Tryz.func239,Tryz.ntmps239
  go_wp2_with fail
  go_loop [0,7] (fun vd vk=>∃ x k:Int,vd=.int .i64 x/\vk=.int .i64 k/\0<=x/\0<=k/\k+36*x<=39582418599936/\Pn.pY 20 x k=Pn.pY 20 (Pn.tH d p true) 0) (fun vd _=>(intOf vd).toNat)
  case atStart=>exact⟨_,0,rfl,rfl,by omega,by omega,by omega,by rw[HX.1]⟩
  case round=>
   obtain⟨x,k,rfl,rfl,x0,k0,hk,he⟩:=hrel;have HE:=jP he;clear he;clear d0 d1 p0 p1 hp0 hst e0 hq0 hq1;by_cases hc:455<x
   ·have hs:=Pn.Hw x k hc (by omega);have HS:=jP hs;clear hs;have x1:0<=x/35:=by omega
    go_wp2
    go_round
    case rel=>exact⟨x/35,k+36,rfl,rfl,by omega,by omega,by omega,by rw[<-HS.1];exact HE.1⟩
    case measure=>simp[intOf];omega
   ·have hs:=Pn.Kr x k hc;have HS:=jP hs;clear hs;obtain⟨l0,l1⟩:=Pn.UJ x x0;go_wp2
    go_ret
    exact⟨by rw[<-HE.1,HS.1];rfl,rfl⟩
theorem TY (j b:Int)(h0:0<=j)(h1:j<=100000000000000)(b0:0<=b)(b1:b<=100000000000000)(w:World) :
  Calls Tryz.prog 283 #[.int .i64 j,.int .i64 b] w fun e w'=>e=.returned (.int .i64 (Pn.lU j b))/\w=w':=by
 go_enter Tryz.func283,Tryz.ntmps283
 go_wp2
 all_goals
  go_ret
  exact⟨qE (by unfold Pn.lU;omega),rfl⟩
theorem ZR:∀ n:Fin 36,(((⟨#[97,98,99,100,101,102,103,104,105,106,107,108,109,110,111,112,113,114,115,116,117,118,119,120,121,122,48,49,50,51,52,53,54,55,56,57]⟩:ByteArray)[n.1]'(n.2)).toNat:Int)=((Pn.pq (n.1:Int)).toNat:Int):=by decide +kernel
theorem Nj (n:Nat)(h:n<36)(w:World) :
  Calls Tryz.prog 284 #[.int .i64 (n:Int)] w fun e w'=>e=.returned (.int .u8 ((Pn.pq (n:Int)).toNat:Int))/\w=w':=by
 go_enter Tryz.func284,Tryz.ntmps284
 go_wp2
 go_ret
 exact⟨qE (ZR ⟨n,h⟩),rfl⟩
theorem Pn.Xm {b:UInt8}(h:97<=(b.toNat:Int)/\(b.toNat:Int)<=122):Pn.qW b=some ((b.toNat:Int)-97):=by unfold Pn.qW;rw[aj h]
theorem Pn.acP {b:UInt8}(h:65<=(b.toNat:Int)/\(b.toNat:Int)<=90):Pn.qW b=some ((b.toNat:Int)-65):=by unfold Pn.qW;rw[ah (by omega),aj h]
theorem Pn.acO {b:UInt8}(h:48<=(b.toNat:Int)/\(b.toNat:Int)<=57):Pn.qW b=some ((b.toNat:Int)-48+26):=by unfold Pn.qW;rw[ah (by omega),ah (by omega),aj h]
theorem Pn.ZO {b:UInt8}(h1:¬(97<=(b.toNat:Int)/\(b.toNat:Int)<=122))(h2:¬(65<=(b.toNat:Int)/\(b.toNat:Int)<=90))(h3:¬(48<=(b.toNat:Int)/\(b.toNat:Int)<=57)):Pn.qW b=none:=by
 unfold Pn.qW;rw[ah h1,ah h2,ah h3]
theorem Xo (b:UInt8):∃ c:Int,(b.toNat:Int)=c/\0<=c/\c<=255 /\
  ((97<=c/\c<=122/\Pn.qW b=some (c-97))\/(65<=c/\c<=90/\Pn.qW b=some (c-65))\/(48<=c/\c<=57/\Pn.qW b=some (c-48+26)) \/
   ((c<48\/(57<c/\c<65)\/(90<c/\c<97)\/122<c)/\Pn.qW b=none)):=by
 have:=b.toNat_lt;refine⟨_,rfl,by omega,by omega,?_⟩;by_cases h1:97<=(b.toNat:Int)/\(b.toNat:Int)<=122
 ·exact .inl ⟨h1.1,h1.2,Pn.Xm h1⟩
 by_cases h2:65<=(b.toNat:Int)/\(b.toNat:Int)<=90
 ·exact .inr (.inl ⟨h2.1,h2.2,Pn.acP h2⟩)
 by_cases h3:48<=(b.toNat:Int)/\(b.toNat:Int)<=57
 ·exact .inr (.inr (.inl ⟨h3.1,h3.2,Pn.acO h3⟩))
 exact .inr (.inr (.inr ⟨by omega,Pn.ZO h1 h2 h3⟩))
theorem Wq (b:UInt8)(w:World) :
  Calls Tryz.prog 292 #[.int .u8 (b.toNat:Int)] w fun e w'=>e=.returned (.tuple #[.int .i64 ((Pn.qW b).getD 0),.bool (Pn.qW b).isSome])/\w=w':=by
 obtain⟨c,hc,c0,c1,h⟩:=Xo b;rw[hc];clear hc;rcases h with ⟨h1,h2,h⟩ | ⟨h1,h2,h⟩ | ⟨h1,h2,h⟩ | ⟨h1 | ⟨h1,h2⟩ | ⟨h1,h2⟩ | h1,h⟩
 all_goals
  rw[h];clear h;go_enter Tryz.func292,Tryz.ntmps292
  go_wp2
  go_ret2
  exact⟨rfl,rfl⟩
theorem uq (c:Int)(w:World) :
  Calls Tryz.prog 314 #[.int .i64 c] w fun e w'=>e=.returned (.tuple #[.int .i64 (Hg.pI c),.int .i64 (Hg.pJ c),.int .i64 (Hg.pK c),.bool (Hg.mF c)])/\w=w':=by
 by_cases h:Hg.mF c=true
 ·have hh:=(Hg.qB c).1 h;have e1:Hg.pI c=(c-44032)/28/21:=by unfold Hg.pI;rw[aj h]
  have e2:Hg.pJ c=(c-44032)/28%21:=by unfold Hg.pJ;rw[aj h]
  have e3:Hg.pK c=(c-44032)%28:=by unfold Hg.pK;rw[aj h]
  rw[h,e1,e2,e3];clear h e1 e2 e3;obtain⟨h1,h2⟩:=hh;go_enter Tryz.func314,Tryz.ntmps314
  go_wp2
  refine aS (rE rfl _ _ _) rfl ?_;exact⟨rfl,rfl⟩
 ·have hn:Hg.mF c=false:=by simpa using h
  have hh:=(Hg.xk c).1 hn;have e1:Hg.pI c=0:=by unfold Hg.pI;rw[ah h]
  have e2:Hg.pJ c=0:=by unfold Hg.pJ;rw[ah h]
  have e3:Hg.pK c=0:=by unfold Hg.pK;rw[ah h]
  rw[hn,e1,e2,e3];clear h e1 e2 e3 hn;rcases hh with hh | hh
  ·go_enter Tryz.func314,Tryz.ntmps314
   go_wp2
   refine aS (rE rfl _ _ _) rfl ?_;exact⟨rfl,rfl⟩
  ·have h3:¬c<44032:=by omega
   go_enter Tryz.func314,Tryz.ntmps314
   go_wp2
   refine aS (rE rfl _ _ _) rfl ?_;exact⟨rfl,rfl⟩
theorem yQ (c:Int)(w:World) :
  Calls Tryz.prog 290 #[.int .i64 c] w fun e w'=>e=.returned (.int .i64 (Hg.kind c))/\w=w':=by
 by_cases hs:Hg.mF c=true
 ·by_cases hk:Hg.pK c=0
  ·have e1:Hg.kind c=4:=by
    have:=(Hg.qB c).1 hs;rw[Hg.JH];refine⟨this,?_⟩;unfold Hg.pK at hk;rw[aj hs] at hk;exact hk
   have hb:(Hg.pK c==0)=true:=by rw[dA];exact hk
   rw[e1];clear e1 hk;go_enter Tryz.func290,Tryz.ntmps290
   go_wp2_with (go_at_call 314;refine (uq _ _).mono ?_;rintro e w' ⟨rfl,rfl⟩)
   go_ret
   exact⟨rfl,rfl⟩
  ·have e1:Hg.kind c=5:=by
    have:=(Hg.qB c).1 hs;rw[Hg.adK];refine⟨this,?_⟩;unfold Hg.pK at hk;rw[aj hs] at hk;exact hk
   have hb:(Hg.pK c==0)=false:=by rw[aX];exact hk
   rw[e1];clear e1 hk;go_enter Tryz.func290,Tryz.ntmps290
   go_wp2_with (go_at_call 314;refine (uq _ _).mono ?_;rintro e w' ⟨rfl,rfl⟩)
   go_ret
   exact⟨rfl,rfl⟩
 ·have hn:Hg.mF c=false:=by simpa using hs
  have hd:=(Hg.xk c).1 hn;clear hs;rcases (show c<4352\/(4352<=c/\c<4371)\/(4371<=c/\c<4449)\/(4449<=c/\c<4470)\/(4470<=c/\c<=4519)\/(4519<c/\c<4547)\/4547<=c from by omega) with h | ⟨h,h'⟩ | ⟨h,h'⟩ | ⟨h,h'⟩ | ⟨h,h'⟩ | ⟨h,h'⟩ | h
  all_goals
   have e1:Hg.kind c=(if 4352<=c/\c<4371 then 1 else if 4449<=c/\c<4470 then 2 else if 4519<c/\c<4547 then 3 else 0):=by
    unfold Hg.kind;rw[ah (by rw[hn];decide)]
   first
    | rw[aj (by omega)] at e1
    | rw[ah (by omega),aj (by omega)] at e1
    | rw[ah (by omega),ah (by omega),aj (by omega)] at e1
    | rw[ah (by omega),ah (by omega),ah (by omega)] at e1
   rw[e1];clear e1 hd;go_enter Tryz.func290,Tryz.ntmps290
   go_wp2_with (go_at_call 314;refine (uq _ _).mono ?_;rintro e w' ⟨rfl,rfl⟩)
   go_ret
   exact⟨rfl,rfl⟩
theorem ae8 (v n:Int)(h1:1<=n)(h2:n<=9223372036854775807):wrap64 ((IntKind.u64.wrap v).tmod n)=Kp.pick v n:=by
 rw[IntKind.wrap_u64];have h0:0<=v%18446744073709551616:=by omega
 rw[Int.tmod_eq_emod_of_nonneg h0];have hlo:=Kp.KX v n h1;have hhi:=Kp.KY v n h1;unfold Kp.pick at *;exact dH _ ⟨by omega,by omega⟩
theorem pick_any (v n:Int)(h1:1<=n)(h2:n<=9223372036854775807)(w:World) :
  Calls Tryz.prog 12 #[.int .i64 v,.int .i64 n] w fun e w'=>e=.returned (.int .i64 (Kp.pick v n))/\w=w':=by
 go_enter Tryz.func12,Tryz.ntmps12
 go_wp2
 go_ret
 exact⟨by rw[<-ae8 v n h1 h2];rfl,rfl⟩
theorem Zt (a b:Int)(w:World) :
  Calls Tryz.prog 249 #[.int .i64 a,.int .i64 b] w fun e w'=>e=.returned (.tuple #[.int .i64 (Hg.comp a b),.bool (Hg.sG a b)])/\w=w':=by
 by_cases h1:Hg.lv a b=true
 ·have hh:=(Hg.PX a b).1 h1;have e1:Hg.comp a b=44032+((a-4352)*21+b-4449)*28:=by unfold Hg.comp;rw[aj h1]
  have e2:Hg.sG a b=true:=by unfold Hg.sG;rw[h1];rfl
  have k1:(Hg.kind a==1)=true:=by rw[dA,Hg.Oh];omega
  have k2:(Hg.kind b==2)=true:=by rw[dA,Hg.kind2];omega
  rw[e1,e2];clear e1 e2 h1;obtain⟨⟨ha1,ha2⟩,hb1,hb2⟩:=hh;go_enter Tryz.func249,Tryz.ntmps249
  go_wp2_with (go_at_call 290;refine (yQ _ _).mono ?_;rintro e w' ⟨rfl,rfl⟩)
  go_ret2
  exact⟨rfl,rfl⟩
 ·have h1':Hg.lv a b=false:=by simpa using h1
  by_cases h2:Hg.JD a b=true
  ·have hh:=(Hg.UE a b).1 h2;have e1:Hg.comp a b=a+b-4519:=by unfold Hg.comp;rw[ah h1,aj h2]
   have e2:Hg.sG a b=true:=by unfold Hg.sG;rw[h2];simp
   have k1:(Hg.kind a==1)=false:=by rw[aX,Ne,Hg.Oh];omega
   have k4:(Hg.kind a==4)=true:=by rw[dA,Hg.JH];omega
   have k3:(Hg.kind b==3)=true:=by rw[dA,Hg.adL];omega
   rw[e1,e2];clear e1 e2 h1 h1' h2;obtain⟨⟨⟨ha1,ha2⟩,_⟩,hb1,hb2⟩:=hh;go_enter Tryz.func249,Tryz.ntmps249
   go_wp2_with (go_at_call 290;refine (yQ _ _).mono ?_;rintro e w' ⟨rfl,rfl⟩)
   go_ret2
   exact⟨rfl,rfl⟩
  ·have h2':Hg.JD a b=false:=by simpa using h2
   have e1:Hg.comp a b=0:=by unfold Hg.comp;rw[ah h1,ah h2]
   have e2:Hg.sG a b=false:=by unfold Hg.sG;rw[h1',h2'];rfl
   rw[e1,e2];clear e1 e2 h1 h2;by_cases ka:Hg.kind a=1
   ·have k1:(Hg.kind a==1)=true:=by rw[dA];exact ka
    have k4:(Hg.kind a==4)=false:=by rw[ka];decide
    have k2:(Hg.kind b==2)=false:=by
     rw[aX];intro hb;unfold Hg.lv at h1';rw[ka,hb] at h1';cases h1'
    clear ka h1' h2';go_enter Tryz.func249,Tryz.ntmps249
    go_wp2_with (go_at_call 290;refine (yQ _ _).mono ?_;rintro e w' ⟨rfl,rfl⟩)
    go_ret2
    exact⟨rfl,rfl⟩
   ·have k1:(Hg.kind a==1)=false:=by rw[aX];exact ka
    by_cases kb:Hg.kind a=4
    ·have k4:(Hg.kind a==4)=true:=by rw[dA];exact kb
     have k3:(Hg.kind b==3)=false:=by
      rw[aX];intro hb;unfold Hg.JD at h2';rw[kb,hb] at h2';cases h2'
     clear ka kb h1' h2';go_enter Tryz.func249,Tryz.ntmps249
     go_wp2_with (go_at_call 290;refine (yQ _ _).mono ?_;rintro e w' ⟨rfl,rfl⟩)
     go_ret2
     exact⟨rfl,rfl⟩
    ·have k4:(Hg.kind a==4)=false:=by rw[aX];exact kb
     clear ka kb h1' h2';go_enter Tryz.func249,Tryz.ntmps249
     go_wp2_with (go_at_call 290;refine (yQ _ _).mono ?_;rintro e w' ⟨rfl,rfl⟩)
     go_ret2
     exact⟨rfl,rfl⟩
theorem acr (c:Int)(w:World):Calls Tryz.prog 288 #[.int .i64 c] w (vG 3 (Hg.dec c) w):=by
 by_cases hs:Hg.mF c=true
 ·obtain⟨⟨i0,i1⟩,⟨j0,j1⟩,⟨k0,k1⟩,hloop⟩:=Hg.Pq c hs;clear hloop;by_cases hk:Hg.pK c=0
  ·have e1:Hg.dec c=[4352+Hg.pI c,4449+Hg.pJ c]:=by unfold Hg.dec;rw[aj hs,aj hk]
   have hb:(Hg.pK c==0)=true:=by rw[dA];exact hk
   rw[e1];clear e1 hk;go_enter Tryz.func288,Tryz.ntmps288
   go_wp2_with (go_at_call 314;refine (uq _ _).mono ?_;rintro e w' ⟨rfl,rfl⟩)
   go_ret
   exact vG.built _ _ _ _ 2 rfl rfl (by decide)
  ·have e1:Hg.dec c=[4352+Hg.pI c,4449+Hg.pJ c,4519+Hg.pK c]:=by unfold Hg.dec;rw[aj hs,ah hk]
   have hb:(Hg.pK c==0)=false:=by rw[aX];exact hk
   rw[e1];clear e1 hk;go_enter Tryz.func288,Tryz.ntmps288
   go_wp2_with (go_at_call 314;refine (uq _ _).mono ?_;rintro e w' ⟨rfl,rfl⟩)
   go_ret
   exact vG.built _ _ _ _ 3 rfl rfl (by decide)
 ·have hn:Hg.mF c=false:=by simpa using hs
  have e1:Hg.dec c=[]:=by unfold Hg.dec;rw[ah hs]
  rw[e1];clear e1 hs;go_enter Tryz.func288,Tryz.ntmps288
  go_wp2_with (go_at_call 314;refine (uq _ _).mono ?_;rintro e w' ⟨rfl,rfl⟩)
  go_ret
  exact vG.nil_ _ _
end Go.Proofs.YtkachcflifhgiaaGreatDoor
