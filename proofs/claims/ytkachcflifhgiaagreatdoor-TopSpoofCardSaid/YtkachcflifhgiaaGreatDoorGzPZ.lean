/-  -/
import Derived.Test.YtkachcflifhgiaaGreatDoorM30
import Derived.Deep.CutRange
set_option linter.unusedVariables false
set_option maxRecDepth 100000
set_option maxHeartbeats 16000000
namespace Go.Proofs.YtkachcflifhgiaaGreatDoor
open Go Go.RowKit Go.Shelf
structure Mb (zb:Nat)(c0:Int)(A1:Option Addr)(n1 c1:Nat)(x:World):Prop where
 b0:x.cell? ⟨zb,0,none⟩=some (.int .i64 c0)
 b1:x.cell? ⟨zb,1,none⟩=some (.slice A1 n1 c1)
section
variable {zb n1 c1:Nat} {c0:Int} {A1:Option Addr} {x y:World}
theorem Mb.conj (h:Mb zb c0 A1 n1 c1 x):x.cell? ⟨zb,0,none⟩=some (.int .i64 c0)/\x.cell? ⟨zb,1,none⟩=some (.slice A1 n1 c1):=⟨h.b0,h.b1⟩
theorem Mb.BO (h:Bk x zb 89 #[.int .i64 c0,.slice A1 n1 c1]):Mb zb c0 A1 n1 c1 x:=⟨h.cell 0,h.cell 1⟩
theorem Mb.drew (h:Mb zb c0 A1 n1 c1 x):Mb zb c0 A1 n1 c1 x.drew:=⟨h.b0,h.b1⟩
theorem Mb.of (h:Mb zb c0 A1 n1 c1 x)(hc:∀ q:Nat,y.cell? ⟨zb,q,none⟩=x.cell? ⟨zb,q,none⟩):Mb zb c0 A1 n1 c1 y:=⟨(hc 0).trans h.b0,(hc 1).trans h.b1⟩
theorem Mb.far (h:Mb zb c0 A1 n1 c1 x){p:Addr}(hp:zb≠p.block)(u:Value):Mb zb c0 A1 n1 c1 (x.setCell p u):=h.of fun q=>bQ x p ⟨zb,q,none⟩ u (fun e=>hp (aV Addr.block e).symm)
end
def Tr (x:World):Prop:=True
theorem Tr.i {x:World}:Tr x:=trivial
theorem Tr.conj {x:World}(h:Tr x):True:=trivial
section
variable {P:Program} {md:Region.Mode} {ops:Array Oper} {Q:Exit->Act->World->Prop} {S:World->Prop}
theorem rc3 {o o' o'':Oper}{fuel:Nat}{listed l1 l2 l3:Array Bool}{a:Act}{w:World}(i j k:Nat)(h:∀ K':Act->World->Prop,Shut (∀ a w,S w->(S w->wpAnyH P md ops Q S fuel l1 a w)->K' a w)->Oper.wp P o a w K' Q)
  (h':∀ K':Act->World->Prop,Shut (∀ a w,S w->(S w->wpAnyH P md ops Q S fuel l2 a w)->K' a w)->Oper.wp P o' a w K' Q)
  (h'':∀ K':Act->World->Prop,Shut (∀ a w,S w->(S w->wpAnyH P md ops Q S fuel l3 a w)->K' a w)->Oper.wp P o'' a w K' Q)
  (ho:ops[i]?=some o:=by ((try simp only[bK,di,dh]);exact rfl)) (ho':ops[j]?=some o':=by ((try simp only[bK,di,dh]);exact rfl)) (alG:ops[k]?=some o'':=by ((try simp only[bK,di,dh]);exact rfl)) (hr:Region.ready md ops listed=[i,j,k]:=by kernel_rfl)
  (hw:Region.wanted o (yielded ops a.tmps)=true:=by rfl) (hw':Region.wanted o' (yielded ops a.tmps)=true:=by rfl) (hw'':Region.wanted o'' (yielded ops a.tmps)=true:=by rfl)
  (hl:listed.setIfInBounds i true=l1:=by ((try simp only[ax,aF,aC]);exact rfl)) (hl':listed.setIfInBounds j true=l2:=by ((try simp only[ax,aF,aC]);exact rfl)) (alI:listed.setIfInBounds k true=l3:=by ((try simp only[ax,aF,aC]);exact rfl)) :
  wpAnyH P md ops Q S (fuel+1) listed a w:=by
 subst hl;subst hl';subst alI;exact wpAnyH_ready hr (by simp) (jD ho (fun K hK=>by rw[aj hw];exact h K hK) (jD ho' (fun K hK=>by rw[aj hw'];exact h' K hK) (jD alG (fun K hK=>by rw[aj hw''];exact h'' K hK) AllReadyH.nil)))
end
def aia (x:World)(g gt:Nat)(S0:Nat->Sl)(T:Gm.Tab)(bs:List Nat)(e:Ending)(y:World):Prop:=
 e=.returned (.tuple #[])/\∃ S d ex bs',oC [] gt S ((T.Iu ex).sQ 9 d) bs' y/\(∀ q∈bs',q∈bs\/x.heap.size<=q)/\nC y g/\jR [g,gt] x y/\zy 5 d ex/\∀ i,i≠9->i≠10->S i=S0 i
theorem Dw.mb {x y:World}{T:Gm.Tab}{g gt n1 c1 zb:Nat}{c0:Int}{A1:Option Addr}{S:Nat->Sl}{bs ts:List Nat}{d:List Gm.Mp}{e kJ:List Int}(h:Dw x g gt T bs S d e ts zb c0 A1 n1 c1 kJ y):Mb zb c0 A1 n1 c1 y:=Mb.BO h.bx
theorem ZY {x:World}{g gt:Nat}{S0:Nat->Sl}{T:Gm.Tab}{bs:List Nat}(hs:nC x g)(ht:oC [] gt S0 T bs x)(hg:g∉bs)(hlt:g<gt)(h9:S0 9=Sl.z)(h10:S0 10=Sl.z) :
  Calls Tryz.prog 30 #[.pointer (some ⟨g,0,none⟩),.pointer (some ⟨gt,0,none⟩)] x (aia x g gt S0 T bs):=by
 have oO:=jP (ht.lt);have wB:=jP (show Mc [9,10] 9 [g,gt] x g gt T bs S0 [] [] x from ⟨hs,(ht.open_ 10).open_ 9,by simp,by rw[h9];exact uK.nil _ _,jR.refl _ _,by simp,by simp,fun q hq=>by
  simp at hq;rcases hq with rfl | rfl
  ·exact hs.lt
  ·exact ht.bx.lt,fun q hq hm=>by
  simp at hq;rcases hq with rfl | rfl
  ·exact hg hm
  ·exact ht.no hm,by rw[h9];simp[jT,Sl.z],hlt⟩)
 have HE0:=jP (show Nr x.heap.size (S0 10).A (S0 10).n (S0 10).c [] [] bs x by rw[h10];exact⟨aH _ _ _ _,by simp[jT,Sl.z]⟩);clear hs ht hg hlt h9 h10;go_enter Tryz.func30,Tryz.ntmps30
 go_wp2_with fail
 go_loopw [4] (fun vi wr=>∃ (k:Nat) (S:Nat->Sl) (d:List Gm.Mp) (ex:List Int) (ts:List Nat),k<=5/\vi=.int .i64 k/\Mc [9,10] 9 [g,gt] x g gt T bs S d ts wr/\Nr x.heap.size (S 10).A (S 10).n (S 10).c ex ts bs wr/\zy k d ex/\∀ i,i≠9->i≠10->S i=S0 i) (fun vi _=>5-(intOf vi).toNat)
 case atStart=>exact⟨0,S0,[],[],[],by omega,rfl,wB.1,HE0.1,zy.start,fun _ _ _=>rfl⟩
 case round=>
  obtain⟨k,S,d,ex,ts,hk,rfl,hm,he,hp,hS⟩:=hrel;have HM:=jP hm;have HE:=jP he;have HP:=jP hp;have HS:=jP hS;clear hm he hp hS wB HE0;by_cases hlt:k<5
  ·go_wp2_with fail
   refine (lK HM.1.src 4 (by omega) (by omega)).mono ?_;rintro e w1 ⟨r1,rfl,r10,r11,hs1,ho1⟩;have hgl:=HM.1.kl g HM.1.kg;have zM:=jP (HM.1.turn hs1 ho1);have VB:=jP (HE.1.jS ho1 (fun q hq=>by rw[aB.1 hq];exact hgl));clear hs1 ho1 HM HE;by_cases hr1:r1=0
   ·subst hr1;go_wp2_with fail
    go_roundw
    case rel=>exact⟨k+1,S,d,ex,ts,by omega,by go_num,zM.1,VB.1,HP.1.skip,HS.1⟩
    case measure=>simp only[intOf]<;>omega
   ·have hrb:(r1==0)=false:=by simpa using hr1
    clear hr1 r10 r11;go_wp2_with fail
    refine (lK zM.1.src 2 (by omega) (by omega)).mono ?_;rintro e w2 ⟨r2,rfl,r20,r21,hs2,ho2⟩;have oN:=jP (zM.1.turn hs2 ho2);have HE2:=jP (VB.1.jS ho2 (fun q hq=>by rw[aB.1 hq];exact hgl));have HR2:=jP (show 0<=r2/\r2<2 from ⟨r20,r21⟩);clear hs2 ho2 zM VB hrb;have hw7:wrap64 (7680+(k:Int))=7680+(k:Int):=dH _ (by omega);have hw2:wrap64 (97+r2)=97+r2:=dH _ (by omega);go_upto_region 5 with (fail)
    try rw[hw7]
    try rw[hw2]
    obtain⟨za,hza⟩:∃ z,z=w2.heap.size:=⟨_,rfl⟩;have HD3:=jP (Dw.start oN.1 HE2.1 oO.1 (7680+(k:Int)) (97+r2));rw[<-hza] at HD3 ⊢;clear oN HE2;generalize (w2.alloc (.cells #[.int .i64 (97+r2)] 3)).alloc (.cells #[.int .i64 (7680+(k:Int)),.slice (some ⟨za,0,none⟩) 1 1] 89)=w3 at *;clear hza;obtain⟨zb,hzb⟩:∃ z,z=za+1:=⟨_,rfl⟩;rw[<-hzb] at HD3 ⊢;clear hzb;go_cut [5,29] from 9 to 92 (fun v5 v29 wx=>v5=.pointer (some ⟨zb,0,none⟩)/\∃ b:Bool,v29=.bool b/\(b=true->0<k)/\Dw x g gt T bs S d ex ts zb (7680+(k:Int)) (some ⟨za,0,none⟩) 1 1 [97+r2] wx)
    case first=>
     by_cases hk0:0<k
     ·go_wp2_with fail
      refine (lK HD3.1.mc.src 3 (by omega) (by omega)).mono ?_;rintro e w4 ⟨r3,rfl,r30,r31,hs4,kQ⟩;have HD4:=jP (HD3.1.turn hs4 kQ);clear hs4 kQ HD3;go_wp2_with fail
      go_meet
      case rel=>exact⟨rfl,(r3==0),rfl,fun _=>hk0,HD4.1⟩
     ·go_wp2_with fail
      go_meet
      case rel=>exact⟨rfl,false,rfl,by simp,HD3.1⟩
    case rest=>
     obtain⟨rfl,b29,rfl,ahE,hd29⟩:=hcut;have HD4:=jP hd29;have ajj:=jP ahE;clear hd29 ahE HD3;go_upto_if 29 with fail
     go_cut [5] from 9 to 92 (fun v5 wx=>v5=.pointer (some ⟨zb,0,none⟩)/\∃ b0:Int,(b0=97\/b0=98\/(7680<=b0/\b0<7680+k))/\Dw x g gt T bs S d ex ts zb (7680+(k:Int)) (some ⟨za,0,none⟩) 1 1 [b0] wx)
     case first=>
      cases b29
      ·go_wp2_with fail
       go_meet
       case rel=>exact⟨rfl,97+r2,by have:=HR2.1;omega,HD4.1⟩
      ·have hk0:0<k:=ajj.1 rfl;go_upto_region 6 with (fail)
       refine aI (S:=Mb zb (7680+(k:Int)) (some ⟨za,0,none⟩) 1 1) (by kernel_rfl) (HD4.1.mb.drew) (fun hHeld=>?_);have HD5:=jP (HD4.1.below ((ai _ _).drew));clear HD4;have uN:=HD5.1.mb;generalize wc.drew=w5 at *;refine tk 0 ?_;refine tk 1 ?_;refine tk 2 ?_;refine tk 3 ?_;refine rc 4 fun K hK=>?_;go_simp
       refine (lK HD5.1.mc.src (k:Int) (by omega) (by omega)).mono ?_;rintro e w6 ⟨r6,rfl,r60,r61,hs6,kT⟩;have HD6:=jP (HD5.1.turn hs6 kT);have o6:=HD6.1.mb;clear hs6 kT HD5 uN;refine rk hK o6 fun hHeld=>?_;clear hK K;have hw6:IntKind.i64.wrap (7680+r6)=7680+r6:=aW _ (by omega);refine tk 5 ?_;refine tk 6 ?_;refine rc 7 fun K hK=>?_;obtain⟨za',hze,_,_,_,hcz,hfz⟩:=uU HD6.1.nr.own (i:=0) (u:=97+r2) rfl;injection hze with hze;injection hze with hze _ _
       subst hze;have hfz:=hfz 0;have HD7:=jP (HD6.1.set0 (7680+r6));have HS7:=HD7.1.mb;go_simp
       refine rk hK HS7 fun hHeld=>?_;clear hK K;refine aJ (by kernel_rfl) ?_ _;go_wp2_with fail
       go_meet
       case rel=>exact⟨rfl,7680+r6,by omega,HD7.1⟩
     case rest=>
      obtain⟨rfl,b0,hb0,hd7⟩:=hcut;have HD7:=jP hd7;have HB0:=jP hb0;clear hd7 hb0 HD4 ajj;go_wp2_with fail
      refine (lK HD7.1.mc.src 8 (by omega) (by omega)).mono ?_;rintro e w8 ⟨r8,rfl,r80,r81,hs8,oZ⟩;have l7:=jP (HD7.1.turn hs8 oZ);clear hs8 oZ HD7;go_upto_if 39 with fail
      go_cut [5] from 9 to 92 (fun v5 wx=>v5=.pointer (some ⟨zb,0,none⟩)/\∃ (A1:Option Addr) (c1:Nat) (kJ:List Int),(kJ=[b0]\/∃ q,kJ=[b0,q]/\q∈([769,776,803,837,945]:List Int))/\Dw x g gt T bs S d ex ts zb (7680+(k:Int)) A1 kJ.length c1 kJ wx)
      case first=>
       by_cases hr8:0<r8
       ·go_upto_region 8 with (fail)
        refine aI (S:=Tr) (by kernel_rfl) (Tr.i) (fun _=>?_);have HD5:=jP (l7.1.below ((ai _ _).drew));clear l7;have HTR:=Tr.i (x:=w8.drew);generalize w8.drew=w5 at *;refine tk 0 ?_;refine tk 3 ?_;refine rc3 1 2 4 (fun K hK=>?_) (fun K hK=>?_) (fun K hK=>?_)
        ·have hcl:=HD5.1.bx.cell 1;go_simp
         refine rk hK Tr.i fun _=>?_;clear hK K hcl;refine Au 2 4 (fun K hK=>?_) (fun K hK=>?_)
         ·go_simp
          have hal:=(ai w5.heap.size w5).alloc (ag _) (.cells #[.int .i64 769,.int .i64 776,.int .i64 803,.int .i64 837,.int .i64 945] 3);have nG:=jP (Bk.new w5 3 #[.int .i64 769,.int .i64 776,.int .i64 803,.int .i64 837,.int .i64 945]);have HD6:=jP (HD5.1.below hal);refine rk hK Tr.i fun _=>?_;clear hK K HD5;obtain⟨z,hz⟩:∃ z,z=w5.heap.size:=⟨_,rfl⟩;rw[<-hz] at nG ⊢;clear hal;generalize w5.alloc (.cells #[.int .i64 769,.int .i64 776,.int .i64 803,.int .i64 837,.int .i64 945] 3)=w6 at *;clear hz;refine rc 4 fun K hK=>?_;go_simp
          refine (lK HD6.1.mc.src 5 (by omega) (by omega)).mono ?_;rintro e w7 ⟨q,rfl,q0,q1,hs,ho⟩;obtain⟨cs,hcs⟩:=HD6.1.mc.src.bk;have HD7:=jP (HD6.1.turn hs ho);have pz:=jP (nG.1.jS ho (by simpa using Bk.ne nG.1 hcs (by decide)));clear hs ho hcs cs HD6 nG;refine rk hK Tr.i fun _=>?_;clear hK K;obtain⟨qn,rfl⟩:∃ n:Nat,q=(n:Int):=⟨q.toNat,by omega⟩;have uB:qn<5:=by omega
          refine rc 5 fun K hK=>?_;go_simp
          refine rk hK Tr.i fun _=>?_;clear hK K q0 q1;refine rc 6 fun K hK=>?_;obtain⟨m,hm⟩:∃ m,([769,776,803,837,945]:List Int)[qn]?=some m:=⟨_,au (by exact uB)⟩;have pU:=jP (ay hm);have hcm:w7.cell? ⟨z,qn,none⟩=some (.int .i64 m):=rP.cell (O:=[769,776,803,837,945]) pz.1 hm;clear hm;go_simp
          refine rk hK Tr.i fun _=>?_;clear hK K hcm pz;refine rc 7 fun K hK=>?_;go_simp
          have hal:=(ai w7.heap.size w7).alloc (ag _) (.cells #[.int .i64 m] 3);have p_:=jP (kG (w:=w7) rfl m);have l7:=jP (HD7.1.below hal);refine rk hK Tr.i fun _=>?_;clear hK K HD7;obtain⟨z2,hz2⟩:∃ z,z=w7.heap.size:=⟨_,rfl⟩;rw[<-hz2] at p_ ⊢;clear hal;generalize w7.alloc (.cells #[.int .i64 m] 3)=w8 at *;clear hz2;obtain⟨A9,c9,w9,hrun,ni,nJ,nD⟩:=pG (w:=w8) 22 (base:=x.heap.size) l7.1.nr.own p_.1 (c:=1) (by omega) l7.1.mc.ot.size;refine rc 8 fun K hK=>?_;refine a_ _ _ _ _ _ rfl (.slice (some ⟨za,0,none⟩) 1 1) (.slice (some ⟨z2,0,none⟩) 1 1) rfl rfl _ _ hrun ?_;have lQ:=jP (l7.1.row (kR nJ) ni (o_ nD)).2.2.1;refine rk hK Tr.i fun _=>?_;clear hK K;have tX:=jP (l7.1.grow nJ ni nD);have Bo:=Tr.i (x:=w9);have hcz:=lQ.1.cell 1;have hfz:=lQ.1.frozen 1;refine tk 9 ?_;refine rc 10 fun K hK=>?_;go_simp
          refine rk hK Tr.i fun _=>?_;clear hK K;refine aJ (by kernel_rfl) ?_ _;go_wp2_with fail
          go_meet
          case rel=>exact⟨rfl,A9,c9,[b0,m],.inr ⟨m,rfl,pU.1⟩,tX.1⟩
         ·go_simp
          refine (lK HD5.1.mc.src 5 (by omega) (by omega)).mono ?_;rintro e w6 ⟨q,rfl,q0,q1,hs,ho⟩;obtain⟨cs,hcs⟩:=HD5.1.mc.src.bk;have HD6:=jP (HD5.1.turn hs ho);clear hs ho hcs cs HD5;refine rk hK Tr.i fun _=>?_;clear hK K;obtain⟨qn,rfl⟩:∃ n:Nat,q=(n:Int):=⟨q.toNat,by omega⟩;have uB:qn<5:=by omega
          refine rc 2 fun K hK=>?_;go_simp
          have hal:=(ai w6.heap.size w6).alloc (ag _) (.cells #[.int .i64 769,.int .i64 776,.int .i64 803,.int .i64 837,.int .i64 945] 3);have pz:=jP (Bk.new w6 3 #[.int .i64 769,.int .i64 776,.int .i64 803,.int .i64 837,.int .i64 945]);have HD7:=jP (HD6.1.below hal);refine rk hK Tr.i fun _=>?_;clear hK K HD6;obtain⟨z,hz⟩:∃ z,z=w6.heap.size:=⟨_,rfl⟩;rw[<-hz] at pz ⊢;clear hal;generalize w6.alloc (.cells #[.int .i64 769,.int .i64 776,.int .i64 803,.int .i64 837,.int .i64 945] 3)=w7 at *;clear hz;refine rc 5 fun K hK=>?_;go_simp
          refine rk hK Tr.i fun _=>?_;clear hK K q0 q1;refine rc 6 fun K hK=>?_;obtain⟨m,hm⟩:∃ m,([769,776,803,837,945]:List Int)[qn]?=some m:=⟨_,au (by exact uB)⟩;have pU:=jP (ay hm);have hcm:w7.cell? ⟨z,qn,none⟩=some (.int .i64 m):=rP.cell (O:=[769,776,803,837,945]) pz.1 hm;clear hm;go_simp
          refine rk hK Tr.i fun _=>?_;clear hK K hcm pz;refine rc 7 fun K hK=>?_;go_simp
          have hal:=(ai w7.heap.size w7).alloc (ag _) (.cells #[.int .i64 m] 3);have p_:=jP (kG (w:=w7) rfl m);have l7:=jP (HD7.1.below hal);refine rk hK Tr.i fun _=>?_;clear hK K HD7;obtain⟨z2,hz2⟩:∃ z,z=w7.heap.size:=⟨_,rfl⟩;rw[<-hz2] at p_ ⊢;clear hal;generalize w7.alloc (.cells #[.int .i64 m] 3)=w8 at *;clear hz2;obtain⟨A9,c9,w9,hrun,ni,nJ,nD⟩:=pG (w:=w8) 22 (base:=x.heap.size) l7.1.nr.own p_.1 (c:=1) (by omega) l7.1.mc.ot.size;refine rc 8 fun K hK=>?_;refine a_ _ _ _ _ _ rfl (.slice (some ⟨za,0,none⟩) 1 1) (.slice (some ⟨z2,0,none⟩) 1 1) rfl rfl _ _ hrun ?_;have lQ:=jP (l7.1.row (kR nJ) ni (o_ nD)).2.2.1;refine rk hK Tr.i fun _=>?_;clear hK K;have tX:=jP (l7.1.grow nJ ni nD);have Bo:=Tr.i (x:=w9);have hcz:=lQ.1.cell 1;have hfz:=lQ.1.frozen 1;refine tk 9 ?_;refine rc 10 fun K hK=>?_;go_simp
          refine rk hK Tr.i fun _=>?_;clear hK K;refine aJ (by kernel_rfl) ?_ _;go_wp2_with fail
          go_meet
          case rel=>exact⟨rfl,A9,c9,[b0,m],.inr ⟨m,rfl,pU.1⟩,tX.1⟩
        ·go_simp
         have hal:=(ai w5.heap.size w5).alloc (ag _) (.cells #[.int .i64 769,.int .i64 776,.int .i64 803,.int .i64 837,.int .i64 945] 3);have nG:=jP (Bk.new w5 3 #[.int .i64 769,.int .i64 776,.int .i64 803,.int .i64 837,.int .i64 945]);have HD6:=jP (HD5.1.below hal);refine rk hK Tr.i fun _=>?_;clear hK K HD5;obtain⟨z,hz⟩:∃ z,z=w5.heap.size:=⟨_,rfl⟩;rw[<-hz] at nG ⊢;clear hal;generalize w5.alloc (.cells #[.int .i64 769,.int .i64 776,.int .i64 803,.int .i64 837,.int .i64 945] 3)=w6 at *;clear hz;refine Au 1 4 (fun K hK=>?_) (fun K hK=>?_)
         ·have hcl:=HD6.1.bx.cell 1;go_simp
          refine rk hK Tr.i fun _=>?_;clear hK K hcl;refine rc 4 fun K hK=>?_;go_simp
          refine (lK HD6.1.mc.src 5 (by omega) (by omega)).mono ?_;rintro e w7 ⟨q,rfl,q0,q1,hs,ho⟩;obtain⟨cs,hcs⟩:=HD6.1.mc.src.bk;have HD7:=jP (HD6.1.turn hs ho);have pz:=jP (nG.1.jS ho (by simpa using Bk.ne nG.1 hcs (by decide)));clear hs ho hcs cs HD6 nG;refine rk hK Tr.i fun _=>?_;clear hK K;obtain⟨qn,rfl⟩:∃ n:Nat,q=(n:Int):=⟨q.toNat,by omega⟩;have uB:qn<5:=by omega
          refine rc 5 fun K hK=>?_;go_simp
          refine rk hK Tr.i fun _=>?_;clear hK K q0 q1;refine rc 6 fun K hK=>?_;obtain⟨m,hm⟩:∃ m,([769,776,803,837,945]:List Int)[qn]?=some m:=⟨_,au (by exact uB)⟩;have pU:=jP (ay hm);have hcm:w7.cell? ⟨z,qn,none⟩=some (.int .i64 m):=rP.cell (O:=[769,776,803,837,945]) pz.1 hm;clear hm;go_simp
          refine rk hK Tr.i fun _=>?_;clear hK K hcm pz;refine rc 7 fun K hK=>?_;go_simp
          have hal:=(ai w7.heap.size w7).alloc (ag _) (.cells #[.int .i64 m] 3);have p_:=jP (kG (w:=w7) rfl m);have l7:=jP (HD7.1.below hal);refine rk hK Tr.i fun _=>?_;clear hK K HD7;obtain⟨z2,hz2⟩:∃ z,z=w7.heap.size:=⟨_,rfl⟩;rw[<-hz2] at p_ ⊢;clear hal;generalize w7.alloc (.cells #[.int .i64 m] 3)=w8 at *;clear hz2;obtain⟨A9,c9,w9,hrun,ni,nJ,nD⟩:=pG (w:=w8) 22 (base:=x.heap.size) l7.1.nr.own p_.1 (c:=1) (by omega) l7.1.mc.ot.size;refine rc 8 fun K hK=>?_;refine a_ _ _ _ _ _ rfl (.slice (some ⟨za,0,none⟩) 1 1) (.slice (some ⟨z2,0,none⟩) 1 1) rfl rfl _ _ hrun ?_;have lQ:=jP (l7.1.row (kR nJ) ni (o_ nD)).2.2.1;refine rk hK Tr.i fun _=>?_;clear hK K;have tX:=jP (l7.1.grow nJ ni nD);have Bo:=Tr.i (x:=w9);have hcz:=lQ.1.cell 1;have hfz:=lQ.1.frozen 1;refine tk 9 ?_;refine rc 10 fun K hK=>?_;go_simp
          refine rk hK Tr.i fun _=>?_;clear hK K;refine aJ (by kernel_rfl) ?_ _;go_wp2_with fail
          go_meet
          case rel=>exact⟨rfl,A9,c9,[b0,m],.inr ⟨m,rfl,pU.1⟩,tX.1⟩
         ·go_simp
          refine (lK HD6.1.mc.src 5 (by omega) (by omega)).mono ?_;rintro e w7 ⟨q,rfl,q0,q1,hs,ho⟩;obtain⟨cs,hcs⟩:=HD6.1.mc.src.bk;have HD7:=jP (HD6.1.turn hs ho);have pz:=jP (nG.1.jS ho (by simpa using Bk.ne nG.1 hcs (by decide)));clear hs ho hcs cs HD6 nG;refine rk hK Tr.i fun _=>?_;clear hK K;obtain⟨qn,rfl⟩:∃ n:Nat,q=(n:Int):=⟨q.toNat,by omega⟩;have uB:qn<5:=by omega
          refine Au 1 5 (fun K hK=>?_) (fun K hK=>?_)
          ·have hcl:=HD7.1.bx.cell 1;go_simp
           refine rk hK Tr.i fun _=>?_;clear hK K hcl;refine rc 5 fun K hK=>?_;go_simp
           refine rk hK Tr.i fun _=>?_;clear hK K q0 q1;refine rc 6 fun K hK=>?_;obtain⟨m,hm⟩:∃ m,([769,776,803,837,945]:List Int)[qn]?=some m:=⟨_,au (by exact uB)⟩;have pU:=jP (ay hm);have hcm:w7.cell? ⟨z,qn,none⟩=some (.int .i64 m):=rP.cell (O:=[769,776,803,837,945]) pz.1 hm;clear hm;go_simp
           refine rk hK Tr.i fun _=>?_;clear hK K hcm pz;refine rc 7 fun K hK=>?_;go_simp
           have hal:=(ai w7.heap.size w7).alloc (ag _) (.cells #[.int .i64 m] 3);have p_:=jP (kG (w:=w7) rfl m);have l7:=jP (HD7.1.below hal);refine rk hK Tr.i fun _=>?_;clear hK K HD7;obtain⟨z2,hz2⟩:∃ z,z=w7.heap.size:=⟨_,rfl⟩;rw[<-hz2] at p_ ⊢;clear hal;generalize w7.alloc (.cells #[.int .i64 m] 3)=w8 at *;clear hz2;obtain⟨A9,c9,w9,hrun,ni,nJ,nD⟩:=pG (w:=w8) 22 (base:=x.heap.size) l7.1.nr.own p_.1 (c:=1) (by omega) l7.1.mc.ot.size;refine rc 8 fun K hK=>?_;refine a_ _ _ _ _ _ rfl (.slice (some ⟨za,0,none⟩) 1 1) (.slice (some ⟨z2,0,none⟩) 1 1) rfl rfl _ _ hrun ?_;have lQ:=jP (l7.1.row (kR nJ) ni (o_ nD)).2.2.1;refine rk hK Tr.i fun _=>?_;clear hK K;have tX:=jP (l7.1.grow nJ ni nD);have Bo:=Tr.i (x:=w9);have hcz:=lQ.1.cell 1;have hfz:=lQ.1.frozen 1;refine tk 9 ?_;refine rc 10 fun K hK=>?_;go_simp
           refine rk hK Tr.i fun _=>?_;clear hK K;refine aJ (by kernel_rfl) ?_ _;go_wp2_with fail
           go_meet
           case rel=>exact⟨rfl,A9,c9,[b0,m],.inr ⟨m,rfl,pU.1⟩,tX.1⟩
          ·go_simp
           refine rk hK Tr.i fun _=>?_;clear hK K q0 q1;refine Au 1 6 (fun K hK=>?_) (fun K hK=>?_)
           ·have hcl:=HD7.1.bx.cell 1;go_simp
            refine rk hK Tr.i fun _=>?_;clear hK K hcl;refine rc 6 fun K hK=>?_;obtain⟨m,hm⟩:∃ m,([769,776,803,837,945]:List Int)[qn]?=some m:=⟨_,au (by exact uB)⟩;have pU:=jP (ay hm);have hcm:w7.cell? ⟨z,qn,none⟩=some (.int .i64 m):=rP.cell (O:=[769,776,803,837,945]) pz.1 hm;clear hm;go_simp
            refine rk hK Tr.i fun _=>?_;clear hK K hcm pz;refine rc 7 fun K hK=>?_;go_simp
            have hal:=(ai w7.heap.size w7).alloc (ag _) (.cells #[.int .i64 m] 3);have p_:=jP (kG (w:=w7) rfl m);have l7:=jP (HD7.1.below hal);refine rk hK Tr.i fun _=>?_;clear hK K HD7;obtain⟨z2,hz2⟩:∃ z,z=w7.heap.size:=⟨_,rfl⟩;rw[<-hz2] at p_ ⊢;clear hal;generalize w7.alloc (.cells #[.int .i64 m] 3)=w8 at *;clear hz2;obtain⟨A9,c9,w9,hrun,ni,nJ,nD⟩:=pG (w:=w8) 22 (base:=x.heap.size) l7.1.nr.own p_.1 (c:=1) (by omega) l7.1.mc.ot.size;refine rc 8 fun K hK=>?_;refine a_ _ _ _ _ _ rfl (.slice (some ⟨za,0,none⟩) 1 1) (.slice (some ⟨z2,0,none⟩) 1 1) rfl rfl _ _ hrun ?_;have lQ:=jP (l7.1.row (kR nJ) ni (o_ nD)).2.2.1;refine rk hK Tr.i fun _=>?_;clear hK K;have tX:=jP (l7.1.grow nJ ni nD);have Bo:=Tr.i (x:=w9);have hcz:=lQ.1.cell 1;have hfz:=lQ.1.frozen 1;refine tk 9 ?_;refine rc 10 fun K hK=>?_;go_simp
            refine rk hK Tr.i fun _=>?_;clear hK K;refine aJ (by kernel_rfl) ?_ _;go_wp2_with fail
            go_meet
            case rel=>exact⟨rfl,A9,c9,[b0,m],.inr ⟨m,rfl,pU.1⟩,tX.1⟩
           ·obtain⟨m,hm⟩:∃ m,([769,776,803,837,945]:List Int)[qn]?=some m:=⟨_,au (by exact uB)⟩;have pU:=jP (ay hm);have hcm:w7.cell? ⟨z,qn,none⟩=some (.int .i64 m):=rP.cell (O:=[769,776,803,837,945]) pz.1 hm;clear hm;go_simp
            refine rk hK Tr.i fun _=>?_;clear hK K hcm pz;refine Au 1 7 (fun K hK=>?_) (fun K hK=>?_)
            ·have hcl:=HD7.1.bx.cell 1;go_simp
             refine rk hK Tr.i fun _=>?_;clear hK K hcl;refine rc 7 fun K hK=>?_;go_simp
             have hal:=(ai w7.heap.size w7).alloc (ag _) (.cells #[.int .i64 m] 3);have p_:=jP (kG (w:=w7) rfl m);have l7:=jP (HD7.1.below hal);refine rk hK Tr.i fun _=>?_;clear hK K HD7;obtain⟨z2,hz2⟩:∃ z,z=w7.heap.size:=⟨_,rfl⟩;rw[<-hz2] at p_ ⊢;clear hal;generalize w7.alloc (.cells #[.int .i64 m] 3)=w8 at *;clear hz2;obtain⟨A9,c9,w9,hrun,ni,nJ,nD⟩:=pG (w:=w8) 22 (base:=x.heap.size) l7.1.nr.own p_.1 (c:=1) (by omega) l7.1.mc.ot.size;refine rc 8 fun K hK=>?_;refine a_ _ _ _ _ _ rfl (.slice (some ⟨za,0,none⟩) 1 1) (.slice (some ⟨z2,0,none⟩) 1 1) rfl rfl _ _ hrun ?_;have lQ:=jP (l7.1.row (kR nJ) ni (o_ nD)).2.2.1;refine rk hK Tr.i fun _=>?_;clear hK K;have tX:=jP (l7.1.grow nJ ni nD);have Bo:=Tr.i (x:=w9);have hcz:=lQ.1.cell 1;have hfz:=lQ.1.frozen 1;refine tk 9 ?_;refine rc 10 fun K hK=>?_;go_simp
             refine rk hK Tr.i fun _=>?_;clear hK K;refine aJ (by kernel_rfl) ?_ _;go_wp2_with fail
             go_meet
             case rel=>exact⟨rfl,A9,c9,[b0,m],.inr ⟨m,rfl,pU.1⟩,tX.1⟩
            ·go_simp
             have hal:=(ai w7.heap.size w7).alloc (ag _) (.cells #[.int .i64 m] 3);have p_:=jP (kG (w:=w7) rfl m);have l7:=jP (HD7.1.below hal);refine rk hK Tr.i fun _=>?_;clear hK K HD7;obtain⟨z2,hz2⟩:∃ z,z=w7.heap.size:=⟨_,rfl⟩;rw[<-hz2] at p_ ⊢;clear hal;generalize w7.alloc (.cells #[.int .i64 m] 3)=w8 at *;clear hz2;refine rc 1 fun K hK=>?_;have hcl:=l7.1.bx.cell 1;go_simp
             refine rk hK Tr.i fun _=>?_;clear hK K hcl;obtain⟨A9,c9,w9,hrun,ni,nJ,nD⟩:=pG (w:=w8) 22 (base:=x.heap.size) l7.1.nr.own p_.1 (c:=1) (by omega) l7.1.mc.ot.size;refine rc 8 fun K hK=>?_;refine a_ _ _ _ _ _ rfl (.slice (some ⟨za,0,none⟩) 1 1) (.slice (some ⟨z2,0,none⟩) 1 1) rfl rfl _ _ hrun ?_;have lQ:=jP (l7.1.row (kR nJ) ni (o_ nD)).2.2.1;refine rk hK Tr.i fun _=>?_;clear hK K;have tX:=jP (l7.1.grow nJ ni nD);have Bo:=Tr.i (x:=w9);have hcz:=lQ.1.cell 1;have hfz:=lQ.1.frozen 1;refine tk 9 ?_;refine rc 10 fun K hK=>?_;go_simp
             refine rk hK Tr.i fun _=>?_;clear hK K;refine aJ (by kernel_rfl) ?_ _;go_wp2_with fail
             go_meet
             case rel=>exact⟨rfl,A9,c9,[b0,m],.inr ⟨m,rfl,pU.1⟩,tX.1⟩
        ·go_simp
         refine (lK HD5.1.mc.src 5 (by omega) (by omega)).mono ?_;rintro e w6 ⟨q,rfl,q0,q1,hs,ho⟩;obtain⟨cs,hcs⟩:=HD5.1.mc.src.bk;have HD6:=jP (HD5.1.turn hs ho);clear hs ho hcs cs HD5;refine rk hK Tr.i fun _=>?_;clear hK K;obtain⟨qn,rfl⟩:∃ n:Nat,q=(n:Int):=⟨q.toNat,by omega⟩;have uB:qn<5:=by omega
         refine Au 1 2 (fun K hK=>?_) (fun K hK=>?_)
         ·have hcl:=HD6.1.bx.cell 1;go_simp
          refine rk hK Tr.i fun _=>?_;clear hK K hcl;refine rc 2 fun K hK=>?_;go_simp
          have hal:=(ai w6.heap.size w6).alloc (ag _) (.cells #[.int .i64 769,.int .i64 776,.int .i64 803,.int .i64 837,.int .i64 945] 3);have pz:=jP (Bk.new w6 3 #[.int .i64 769,.int .i64 776,.int .i64 803,.int .i64 837,.int .i64 945]);have HD7:=jP (HD6.1.below hal);refine rk hK Tr.i fun _=>?_;clear hK K HD6;obtain⟨z,hz⟩:∃ z,z=w6.heap.size:=⟨_,rfl⟩;rw[<-hz] at pz ⊢;clear hal;generalize w6.alloc (.cells #[.int .i64 769,.int .i64 776,.int .i64 803,.int .i64 837,.int .i64 945] 3)=w7 at *;clear hz;refine rc 5 fun K hK=>?_;go_simp
          refine rk hK Tr.i fun _=>?_;clear hK K q0 q1;refine rc 6 fun K hK=>?_;obtain⟨m,hm⟩:∃ m,([769,776,803,837,945]:List Int)[qn]?=some m:=⟨_,au (by exact uB)⟩;have pU:=jP (ay hm);have hcm:w7.cell? ⟨z,qn,none⟩=some (.int .i64 m):=rP.cell (O:=[769,776,803,837,945]) pz.1 hm;clear hm;go_simp
          refine rk hK Tr.i fun _=>?_;clear hK K hcm pz;refine rc 7 fun K hK=>?_;go_simp
          have hal:=(ai w7.heap.size w7).alloc (ag _) (.cells #[.int .i64 m] 3);have p_:=jP (kG (w:=w7) rfl m);have l7:=jP (HD7.1.below hal);refine rk hK Tr.i fun _=>?_;clear hK K HD7;obtain⟨z2,hz2⟩:∃ z,z=w7.heap.size:=⟨_,rfl⟩;rw[<-hz2] at p_ ⊢;clear hal;generalize w7.alloc (.cells #[.int .i64 m] 3)=w8 at *;clear hz2;obtain⟨A9,c9,w9,hrun,ni,nJ,nD⟩:=pG (w:=w8) 22 (base:=x.heap.size) l7.1.nr.own p_.1 (c:=1) (by omega) l7.1.mc.ot.size;refine rc 8 fun K hK=>?_;refine a_ _ _ _ _ _ rfl (.slice (some ⟨za,0,none⟩) 1 1) (.slice (some ⟨z2,0,none⟩) 1 1) rfl rfl _ _ hrun ?_;have lQ:=jP (l7.1.row (kR nJ) ni (o_ nD)).2.2.1;refine rk hK Tr.i fun _=>?_;clear hK K;have tX:=jP (l7.1.grow nJ ni nD);have Bo:=Tr.i (x:=w9);have hcz:=lQ.1.cell 1;have hfz:=lQ.1.frozen 1;refine tk 9 ?_;refine rc 10 fun K hK=>?_;go_simp
          refine rk hK Tr.i fun _=>?_;clear hK K;refine aJ (by kernel_rfl) ?_ _;go_wp2_with fail
          go_meet
          case rel=>exact⟨rfl,A9,c9,[b0,m],.inr ⟨m,rfl,pU.1⟩,tX.1⟩
         ·go_simp
          have hal:=(ai w6.heap.size w6).alloc (ag _) (.cells #[.int .i64 769,.int .i64 776,.int .i64 803,.int .i64 837,.int .i64 945] 3);have pz:=jP (Bk.new w6 3 #[.int .i64 769,.int .i64 776,.int .i64 803,.int .i64 837,.int .i64 945]);have HD7:=jP (HD6.1.below hal);refine rk hK Tr.i fun _=>?_;clear hK K HD6;obtain⟨z,hz⟩:∃ z,z=w6.heap.size:=⟨_,rfl⟩;rw[<-hz] at pz ⊢;clear hal;generalize w6.alloc (.cells #[.int .i64 769,.int .i64 776,.int .i64 803,.int .i64 837,.int .i64 945] 3)=w7 at *;clear hz;refine Au 1 5 (fun K hK=>?_) (fun K hK=>?_)
          ·have hcl:=HD7.1.bx.cell 1;go_simp
           refine rk hK Tr.i fun _=>?_;clear hK K hcl;refine rc 5 fun K hK=>?_;go_simp
           refine rk hK Tr.i fun _=>?_;clear hK K q0 q1;refine rc 6 fun K hK=>?_;obtain⟨m,hm⟩:∃ m,([769,776,803,837,945]:List Int)[qn]?=some m:=⟨_,au (by exact uB)⟩;have pU:=jP (ay hm);have hcm:w7.cell? ⟨z,qn,none⟩=some (.int .i64 m):=rP.cell (O:=[769,776,803,837,945]) pz.1 hm;clear hm;go_simp
           refine rk hK Tr.i fun _=>?_;clear hK K hcm pz;refine rc 7 fun K hK=>?_;go_simp
           have hal:=(ai w7.heap.size w7).alloc (ag _) (.cells #[.int .i64 m] 3);have p_:=jP (kG (w:=w7) rfl m);have l7:=jP (HD7.1.below hal);refine rk hK Tr.i fun _=>?_;clear hK K HD7;obtain⟨z2,hz2⟩:∃ z,z=w7.heap.size:=⟨_,rfl⟩;rw[<-hz2] at p_ ⊢;clear hal;generalize w7.alloc (.cells #[.int .i64 m] 3)=w8 at *;clear hz2;obtain⟨A9,c9,w9,hrun,ni,nJ,nD⟩:=pG (w:=w8) 22 (base:=x.heap.size) l7.1.nr.own p_.1 (c:=1) (by omega) l7.1.mc.ot.size;refine rc 8 fun K hK=>?_;refine a_ _ _ _ _ _ rfl (.slice (some ⟨za,0,none⟩) 1 1) (.slice (some ⟨z2,0,none⟩) 1 1) rfl rfl _ _ hrun ?_;have lQ:=jP (l7.1.row (kR nJ) ni (o_ nD)).2.2.1;refine rk hK Tr.i fun _=>?_;clear hK K;have tX:=jP (l7.1.grow nJ ni nD);have Bo:=Tr.i (x:=w9);have hcz:=lQ.1.cell 1;have hfz:=lQ.1.frozen 1;refine tk 9 ?_;refine rc 10 fun K hK=>?_;go_simp
           refine rk hK Tr.i fun _=>?_;clear hK K;refine aJ (by kernel_rfl) ?_ _;go_wp2_with fail
           go_meet
           case rel=>exact⟨rfl,A9,c9,[b0,m],.inr ⟨m,rfl,pU.1⟩,tX.1⟩
          ·go_simp
           refine rk hK Tr.i fun _=>?_;clear hK K q0 q1;refine Au 1 6 (fun K hK=>?_) (fun K hK=>?_)
           ·have hcl:=HD7.1.bx.cell 1;go_simp
            refine rk hK Tr.i fun _=>?_;clear hK K hcl;refine rc 6 fun K hK=>?_;obtain⟨m,hm⟩:∃ m,([769,776,803,837,945]:List Int)[qn]?=some m:=⟨_,au (by exact uB)⟩;have pU:=jP (ay hm);have hcm:w7.cell? ⟨z,qn,none⟩=some (.int .i64 m):=rP.cell (O:=[769,776,803,837,945]) pz.1 hm;clear hm;go_simp
            refine rk hK Tr.i fun _=>?_;clear hK K hcm pz;refine rc 7 fun K hK=>?_;go_simp
            have hal:=(ai w7.heap.size w7).alloc (ag _) (.cells #[.int .i64 m] 3);have p_:=jP (kG (w:=w7) rfl m);have l7:=jP (HD7.1.below hal);refine rk hK Tr.i fun _=>?_;clear hK K HD7;obtain⟨z2,hz2⟩:∃ z,z=w7.heap.size:=⟨_,rfl⟩;rw[<-hz2] at p_ ⊢;clear hal;generalize w7.alloc (.cells #[.int .i64 m] 3)=w8 at *;clear hz2;obtain⟨A9,c9,w9,hrun,ni,nJ,nD⟩:=pG (w:=w8) 22 (base:=x.heap.size) l7.1.nr.own p_.1 (c:=1) (by omega) l7.1.mc.ot.size;refine rc 8 fun K hK=>?_;refine a_ _ _ _ _ _ rfl (.slice (some ⟨za,0,none⟩) 1 1) (.slice (some ⟨z2,0,none⟩) 1 1) rfl rfl _ _ hrun ?_;have lQ:=jP (l7.1.row (kR nJ) ni (o_ nD)).2.2.1;refine rk hK Tr.i fun _=>?_;clear hK K;have tX:=jP (l7.1.grow nJ ni nD);have Bo:=Tr.i (x:=w9);have hcz:=lQ.1.cell 1;have hfz:=lQ.1.frozen 1;refine tk 9 ?_;refine rc 10 fun K hK=>?_;go_simp
            refine rk hK Tr.i fun _=>?_;clear hK K;refine aJ (by kernel_rfl) ?_ _;go_wp2_with fail
            go_meet
            case rel=>exact⟨rfl,A9,c9,[b0,m],.inr ⟨m,rfl,pU.1⟩,tX.1⟩
           ·obtain⟨m,hm⟩:∃ m,([769,776,803,837,945]:List Int)[qn]?=some m:=⟨_,au (by exact uB)⟩;have pU:=jP (ay hm);have hcm:w7.cell? ⟨z,qn,none⟩=some (.int .i64 m):=rP.cell (O:=[769,776,803,837,945]) pz.1 hm;clear hm;go_simp
            refine rk hK Tr.i fun _=>?_;clear hK K hcm pz;refine Au 1 7 (fun K hK=>?_) (fun K hK=>?_)
            ·have hcl:=HD7.1.bx.cell 1;go_simp
             refine rk hK Tr.i fun _=>?_;clear hK K hcl;refine rc 7 fun K hK=>?_;go_simp
             have hal:=(ai w7.heap.size w7).alloc (ag _) (.cells #[.int .i64 m] 3);have p_:=jP (kG (w:=w7) rfl m);have l7:=jP (HD7.1.below hal);refine rk hK Tr.i fun _=>?_;clear hK K HD7;obtain⟨z2,hz2⟩:∃ z,z=w7.heap.size:=⟨_,rfl⟩;rw[<-hz2] at p_ ⊢;clear hal;generalize w7.alloc (.cells #[.int .i64 m] 3)=w8 at *;clear hz2;obtain⟨A9,c9,w9,hrun,ni,nJ,nD⟩:=pG (w:=w8) 22 (base:=x.heap.size) l7.1.nr.own p_.1 (c:=1) (by omega) l7.1.mc.ot.size;refine rc 8 fun K hK=>?_;refine a_ _ _ _ _ _ rfl (.slice (some ⟨za,0,none⟩) 1 1) (.slice (some ⟨z2,0,none⟩) 1 1) rfl rfl _ _ hrun ?_;have lQ:=jP (l7.1.row (kR nJ) ni (o_ nD)).2.2.1;refine rk hK Tr.i fun _=>?_;clear hK K;have tX:=jP (l7.1.grow nJ ni nD);have Bo:=Tr.i (x:=w9);have hcz:=lQ.1.cell 1;have hfz:=lQ.1.frozen 1;refine tk 9 ?_;refine rc 10 fun K hK=>?_;go_simp
             refine rk hK Tr.i fun _=>?_;clear hK K;refine aJ (by kernel_rfl) ?_ _;go_wp2_with fail
             go_meet
             case rel=>exact⟨rfl,A9,c9,[b0,m],.inr ⟨m,rfl,pU.1⟩,tX.1⟩
            ·go_simp
             have hal:=(ai w7.heap.size w7).alloc (ag _) (.cells #[.int .i64 m] 3);have p_:=jP (kG (w:=w7) rfl m);have l7:=jP (HD7.1.below hal);refine rk hK Tr.i fun _=>?_;clear hK K HD7;obtain⟨z2,hz2⟩:∃ z,z=w7.heap.size:=⟨_,rfl⟩;rw[<-hz2] at p_ ⊢;clear hal;generalize w7.alloc (.cells #[.int .i64 m] 3)=w8 at *;clear hz2;refine rc 1 fun K hK=>?_;have hcl:=l7.1.bx.cell 1;go_simp
             refine rk hK Tr.i fun _=>?_;clear hK K hcl;obtain⟨A9,c9,w9,hrun,ni,nJ,nD⟩:=pG (w:=w8) 22 (base:=x.heap.size) l7.1.nr.own p_.1 (c:=1) (by omega) l7.1.mc.ot.size;refine rc 8 fun K hK=>?_;refine a_ _ _ _ _ _ rfl (.slice (some ⟨za,0,none⟩) 1 1) (.slice (some ⟨z2,0,none⟩) 1 1) rfl rfl _ _ hrun ?_;have lQ:=jP (l7.1.row (kR nJ) ni (o_ nD)).2.2.1;refine rk hK Tr.i fun _=>?_;clear hK K;have tX:=jP (l7.1.grow nJ ni nD);have Bo:=Tr.i (x:=w9);have hcz:=lQ.1.cell 1;have hfz:=lQ.1.frozen 1;refine tk 9 ?_;refine rc 10 fun K hK=>?_;go_simp
             refine rk hK Tr.i fun _=>?_;clear hK K;refine aJ (by kernel_rfl) ?_ _;go_wp2_with fail
             go_meet
             case rel=>exact⟨rfl,A9,c9,[b0,m],.inr ⟨m,rfl,pU.1⟩,tX.1⟩
       ·go_wp2_with fail
        go_meet
        case rel=>exact⟨rfl,some ⟨za,0,none⟩,1,[b0],.inl rfl,l7.1⟩
      case rest=>
       obtain⟨rfl,A1,c1,kJ,hto,hd9⟩:=hcut;have tX:=jP hd9;have Rw:=jP (show Gm.qN ⟨7680+(k:Int),kJ⟩ from by
        have hb:=HB0.1;refine⟨by show (7680:Int)<=7680+k;omega,by show 7680+(k:Int)<=7684;omega,b0,?_,?_⟩
        ·rcases hb with e | e | e
         ·exact .inl e
         ·exact .inr (.inl e)
         ·exact .inr (.inr ⟨e.1,e.2⟩)
        ·exact hto)
       have Rx:=jP (show 0<kJ.length/\kJ.length<=2 by
        rcases hto with e | ⟨q,e,_⟩<;>rw[e]<;>simp)
       clear hd9 hto l7 HB0 r80 r81;go_wp2_with fail
       refine (lK tX.1.mc.src 6 (by omega) (by omega)).mono ?_;rintro e w10 ⟨alk,rfl,_,_,hs,ho⟩;have DC:=jP (tX.1.turn hs ho);clear hs ho tX;obtain⟨tw0,ahc⟩:∃ b:Bool,(alk==0)=b:=⟨_,rfl⟩;obtain⟨hcl,hcf⟩:=DC.1.mc.tb.cell (k:=9) (by omega);have VC:=jP (show d.length=(S 9).n by obtain⟨cs,_,h2,_⟩:=DC.1.mc.mp.row;exact h2);go_wp2_with fail
       try rw[ahc]
       go_loopw [6,58] (fun v6 v58 wr=>∃ (j:Nat) (tw:Bool),j<=(S 9).n/\v58=.int .i64 j/\v6=.bool tw/\(∀ (i:Nat) (p:Gm.Mp),i<j->d[i]?=some p->p.to=kJ->tw=true)/\Dw x g gt T bs S d ex ts zb (7680+(k:Int)) A1 kJ.length c1 kJ wr) (fun _ vi _=>(S 9).n-(intOf vi).toNat)
       case atStart=>exact⟨0,tw0,by omega,rfl,rfl,fun i p hi=>absurd hi (by omega),DC.1⟩
       case round=>
        obtain⟨j,tw,hj,rfl,rfl,hpre,hd⟩:=hrel;have FV:=jP hpre;have Ii:=jP hd;clear hpre hd DC hcl hcf ahc;by_cases hjl:j<(S 9).n
        ·have UU:(S 9).n<=5:=by have:=HP.1.dl;have:=VC.1;omega
         obtain⟨p,hp⟩:∃ p,d[j]?=some p:=⟨_,au (by rw[VC.1];exact hjl)⟩;obtain⟨cs,m1,m2,m3⟩:=Ii.1.mc.mp.row;obtain⟨q9,nD⟩:=DT m1 (by omega);obtain⟨e1,A',c',e2,e3⟩:=m3 j p hp;have wZ:=jP (show Rd wr wr.heap.size 1 A' p.to.length (ints p.to) from e3 wr wr.heap.size (fun _ _=>rfl) Ii.1.mc.mp.lt);rw[nD] at m1;have y0:=(qj m1 e1).1;have y1:=(qj m1 e2).1;have HDP:=jP (HP.1.dec p (ay hp)).1.ne.2;have HPJ:=jP hp;clear m1 m2 m3 e1 e2 e3 hp cs;have hal:=(ai wr.heap.size wr).alloc (ag _) (.cells #[.int .i64 p.f,.slice A' p.to.length c'] 89);have Ew:=jP (Ii.1.below hal);have Xz:=jP (wZ.1.below hal);have air:=jP (Rd.kX Ew.1.nr.own);have H7:=jP hal.size;clear hal;rw[nD];cases tw
         ·have yb0:=Ew.1.bx.cell 1;go_wp2_with fail
          refine (aeQ A' A1 p.to.length kJ.length c' c1 p.to kJ _ _ (Xz.1.more H7.1) air.1 (by have:=HDP.1;unfold maxLen;omega) (by have:=Rx.1;unfold maxLen;omega)).mono ?_;rintro e TP ⟨rfl,nd,rfl⟩;have HDE:=jP (Ew.1.below (below_drewN (ai _ _) nd));clear Ew Xz air y0 y1 yb0;go_wp2_with fail
          go_roundw
          case rel=>exact⟨j+1,decide (p.to=kJ),by omega,by go_num,rfl,fun i q hi hq he=>by
           by_cases hij:i<j
           ·have:=FV.1 i q hij hq he;cases this
           ·obtain rfl:i=j:=by omega
            rw[HPJ.1] at hq;injection hq with hq
            subst hq;simpa using he,HDE.1⟩
          case measure=>simp only[intOf]<;>omega
         ·go_wp2_with fail
          go_roundw
          case rel=>exact⟨j+1,true,by omega,by go_num,rfl,fun i q hi hq he=>rfl,Ew.1⟩
          case measure=>simp only[intOf]<;>omega
        ·obtain rfl:j=(S 9).n:=by omega
         have Ru:=jP (show ∀ p∈d,p.to=kJ->tw=true from fun p hp he=>by
          obtain⟨i,hi,e⟩:=List.getElem_of_mem hp;exact FV.1 i p (by rw[<-VC.1];exact hi) (by rw[au hi,e]) he)
         clear FV;go_upto_if 71 with fail
         go_cut [5] from 9 to 92 (fun v5 wx=>v5=.pointer (some ⟨zb,0,none⟩)/\∃ (S':Nat->Sl) (e':List Int),e'=(if tw=true then ex++[7680+(k:Int)] else ex)/\(∀ i,i≠10->S' i=S i)/\Dw x g gt T bs S' d e' ts zb (7680+(k:Int)) A1 kJ.length c1 kJ wx)
         case first=>
          cases tw
          ·go_wp2_with fail
           go_meet
           case rel=>exact⟨rfl,S,ex,rfl,fun _ _=>rfl,Ii.1⟩
          ·go_upto_region 16 with (fail)
           refine aI (S:=Mb zb (7680+(k:Int)) A1 kJ.length c1) (by kernel_rfl) (Ii.1.mb.drew) (fun hHeld=>?_);have HD5:=jP (Ii.1.below ((ai _ _).drew));clear Ii;have uN:=HD5.1.mb;generalize wr.drew=w5 at *;refine tk 0 ?_;refine tk 1 ?_;refine tk 2 ?_;refine tk 3 ?_;refine tk 5 ?_;refine tk 6 ?_;refine Au 4 7 (fun K hK=>?_) (fun K hK=>?_)
           ·obtain⟨hcl,hcf⟩:=HD5.1.mc.tb.cell (k:=10) (by omega);go_simp
            refine rk hK uN fun hHeld=>?_;clear hK K hcl hcf;refine rc 7 fun K hK=>?_;go_simp
            have hal:=(ai w5.heap.size w5).alloc (ag _) (.cells #[.int .i64 (7680+(k:Int))] 3);have nG:=jP (Bk.new w5 3 #[.int .i64 (7680+(k:Int))]);have HD6:=jP (HD5.1.below hal);have o6:=HD6.1.mb;refine rk hK o6 fun hHeld=>?_;clear hK K;obtain⟨z,hz⟩:∃ z,z=w5.heap.size:=⟨_,rfl⟩;rw[<-hz] at nG ⊢;clear hal;generalize w5.alloc (.cells #[.int .i64 (7680+(k:Int))] 3)=w6 at *;clear hz;have uI:Rd w6 w6.heap.size 1 (some ⟨z,0,none⟩) 1 (ints [7680+(k:Int)]):=⟨rfl,fun _=>⟨z,0,rfl,nG.1.lt,fun i u hu=>by rw[nG.1.cell,bf];simpa[ints] using hu⟩⟩;obtain⟨A8,c8,w8,hrun,oZ,nN,AZ⟩:=pG (w:=w6) 22 (base:=x.heap.size) HD6.1.ex.own uI (c:=1) (by have:=HD6.1.ex.lt;have:=HP.1.el;omega) HD6.1.mc.ot.size;refine rc 8 fun K hK=>?_;refine a_ _ _ _ _ _ rfl (.slice (S 10).A (S 10).n (S 10).c) (.slice (some ⟨z,0,none⟩) 1 1) rfl rfl _ _ hrun ?_;have qM:=jP (show Bk w8 zb 89 #[.int .i64 (7680+(k:Int)),.slice A1 kJ.length c1] from HD6.1.bx.jS (kR nN) (fun hm=>by
             obtain⟨cs,hb⟩:=kV HD6.1.ex.own zb hm;exact Bk.ne hb HD6.1.bx (by decide) rfl))
            have uM:Mb zb (7680+(k:Int)) A1 kJ.length c1 w8:=Mb.BO qM.1;refine rk hK uM fun hHeld=>?_;clear hK K;refine tk 9 ?_;refine tk 10 ?_;refine rc 11 fun K hK=>?_;have vO:=jP (HD6.1.exc (kR nN) oZ (o_ AZ));have qL:=jP (show Bk w8 gt 26 (kK (wG S)) from HD6.1.mc.tb.bx.jS (kR nN) (fun hm=>by
             obtain⟨cs,hb⟩:=kV HD6.1.ex.own gt hm;exact Bk.ne hb HD6.1.mc.tb.bx (by decide) rfl))
            have hcz:=qL.1.cell 10;have hfz:=qL.1.frozen 10;go_simp
            refine rk hK vO.1.mb fun hHeld=>?_;clear hK K;refine aJ (by kernel_rfl) ?_ _;go_wp2_with fail
            go_meet
            case rel=>exact⟨rfl,_,_,rfl,fun i hi=>by unfold nZ;rw[ah hi],vO.1⟩
           ·go_simp
            have hal:=(ai w5.heap.size w5).alloc (ag _) (.cells #[.int .i64 (7680+(k:Int))] 3);have nG:=jP (Bk.new w5 3 #[.int .i64 (7680+(k:Int))]);have HD6:=jP (HD5.1.below hal);have o6:=HD6.1.mb;refine rk hK o6 fun hHeld=>?_;clear hK K;obtain⟨z,hz⟩:∃ z,z=w5.heap.size:=⟨_,rfl⟩;rw[<-hz] at nG ⊢;clear hal;generalize w5.alloc (.cells #[.int .i64 (7680+(k:Int))] 3)=w6 at *;clear hz;refine rc 4 fun K hK=>?_;obtain⟨hcl,hcf⟩:=HD6.1.mc.tb.cell (k:=10) (by omega);go_simp
            refine rk hK o6 fun hHeld=>?_;clear hK K hcl hcf;have uI:Rd w6 w6.heap.size 1 (some ⟨z,0,none⟩) 1 (ints [7680+(k:Int)]):=⟨rfl,fun _=>⟨z,0,rfl,nG.1.lt,fun i u hu=>by rw[nG.1.cell,bf];simpa[ints] using hu⟩⟩;obtain⟨A8,c8,w8,hrun,oZ,nN,AZ⟩:=pG (w:=w6) 22 (base:=x.heap.size) HD6.1.ex.own uI (c:=1) (by have:=HD6.1.ex.lt;have:=HP.1.el;omega) HD6.1.mc.ot.size;refine rc 8 fun K hK=>?_;refine a_ _ _ _ _ _ rfl (.slice (S 10).A (S 10).n (S 10).c) (.slice (some ⟨z,0,none⟩) 1 1) rfl rfl _ _ hrun ?_;have qM:=jP (show Bk w8 zb 89 #[.int .i64 (7680+(k:Int)),.slice A1 kJ.length c1] from HD6.1.bx.jS (kR nN) (fun hm=>by
             obtain⟨cs,hb⟩:=kV HD6.1.ex.own zb hm;exact Bk.ne hb HD6.1.bx (by decide) rfl))
            have uM:Mb zb (7680+(k:Int)) A1 kJ.length c1 w8:=Mb.BO qM.1;refine rk hK uM fun hHeld=>?_;clear hK K;refine tk 9 ?_;refine tk 10 ?_;refine rc 11 fun K hK=>?_;have vO:=jP (HD6.1.exc (kR nN) oZ (o_ AZ));have qL:=jP (show Bk w8 gt 26 (kK (wG S)) from HD6.1.mc.tb.bx.jS (kR nN) (fun hm=>by
             obtain⟨cs,hb⟩:=kV HD6.1.ex.own gt hm;exact Bk.ne hb HD6.1.mc.tb.bx (by decide) rfl))
            have hcz:=qL.1.cell 10;have hfz:=qL.1.frozen 10;go_simp
            refine rk hK vO.1.mb fun hHeld=>?_;clear hK K;refine aJ (by kernel_rfl) ?_ _;go_wp2_with fail
            go_meet
            case rel=>exact⟨rfl,_,_,rfl,fun i hi=>by unfold nZ;rw[ah hi],vO.1⟩
         case rest=>
          obtain⟨rfl,S',e',he',hS',hd⟩:=hcut;have Ig:=jP hd;have HE':=jP he';have HS':=jP hS';have HNS:=jP (show S' 9=S 9 from hS' 9 (by omega));clear hd he' hS' Ii;go_upto_region 17 with (fail)
          refine aI (S:=Mb zb (7680+(k:Int)) A1 kJ.length c1) (by kernel_rfl) (Ig.1.mb.drew) (fun hHeld=>?_);have HD5:=jP (Ig.1.below ((ai _ _).drew));clear Ig;have uN:=HD5.1.mb;generalize wc.drew=w5 at *;refine tk 0 ?_;refine tk 1 ?_;refine tk 2 ?_;refine tk 3 ?_;refine tk 5 ?_;refine Au 4 6 (fun K hK=>?_) (fun K hK=>?_)
          ·obtain⟨hcl,hcf⟩:=HD5.1.mc.tb.cell (k:=9) (by omega);go_simp
           refine rk hK uN fun hHeld=>?_;clear hK K hcl hcf;refine rc 6 fun K hK=>?_;go_simp
           have hal:=(ai w5.heap.size w5).alloc (ag _) (.cells #[.int .i64 (7680+(k:Int)),.slice A1 kJ.length c1] 89);have nG:=jP (Bk.new w5 89 #[.int .i64 (7680+(k:Int)),.slice A1 kJ.length c1]);have HD6:=jP (HD5.1.below hal);have o6:=HD6.1.mb;refine rk hK o6 fun hHeld=>?_;clear hK K;obtain⟨z,hz⟩:∃ z,z=w5.heap.size:=⟨_,rfl⟩;rw[<-hz] at nG ⊢;clear hal;generalize w5.alloc (.cells #[.int .i64 (7680+(k:Int)),.slice A1 kJ.length c1] 89)=w6 at *;clear hz;obtain⟨cs,m1,m2,m3⟩:=HD6.1.mc.mp.row;have uI:Rd w6 w6.heap.size 2 (some ⟨z,0,none⟩) 1 [.int .i64 (7680+(k:Int)),.slice A1 kJ.length c1]:=⟨rfl,fun _=>⟨z,0,rfl,nG.1.lt,fun i u hu=>by rw[nG.1.cell,bf];simpa using hu⟩⟩;obtain⟨A8,c8,w8,hrun,oZ,nN,AZ⟩:=xW (w:=w6) 24 (base:=x.heap.size) m1 uI (c:=1) (by intro u hu;simp at hu;rcases hu with rfl | rfl<;>rfl) (by have:=HP.1.dl;omega) HD6.1.mc.ot.size;refine rc 7 fun K hK=>?_;refine a_ _ _ _ _ _ rfl (.slice (S' 9).A (S' 9).n (S' 9).c) (.slice (some ⟨z,0,none⟩) 1 1) rfl rfl _ _ hrun ?_;have qM:=jP (show Bk w8 zb 89 #[.int .i64 (7680+(k:Int)),.slice A1 kJ.length c1] from HD6.1.bx.jS (kR nN) HD6.1.zn);have uM:Mb zb (7680+(k:Int)) A1 kJ.length c1 w8:=Mb.BO qM.1;refine rk hK uM fun hHeld=>?_;clear hK K;refine tk 8 ?_;refine tk 9 ?_;refine rc 10 fun K hK=>?_;have vO:=jP (HD6.1.fin m1 m2 m3 nN oZ AZ);have qL:=jP (show Bk w8 gt 26 (kK (wG S')) from HD6.1.mc.tb.bx.jS (kR nN) (fun hm=>by
            obtain⟨cs,hb⟩:=kV m1 gt hm;exact Bk.ne hb HD6.1.mc.tb.bx (by decide) rfl))
           have hcz:=qL.1.cell 9;have hfz:=qL.1.frozen 9;have hzn:=HD6.1.gl;have hzl:=HD6.1.zl;go_simp
           refine rk hK (uM.far (p:=⟨gt,9,none⟩) (by show zb≠gt;omega) _) fun hHeld=>?_;clear hK K;refine aJ (by kernel_rfl) ?_ _;go_wp2_with fail
           go_roundw
           case rel=>exact⟨k+1,_,_,_,_,by omega,by go_num,vO.1.1,vO.1.2,HP.1.add (by omega) Rw.1 Ru.1 HE'.1,fun i h9 h10=>by unfold nZ;rw[ah h9,HS'.1 i h10,HS.1 i h9 h10]⟩
           case measure=>simp only[intOf]<;>omega
          ·go_simp
           have hal:=(ai w5.heap.size w5).alloc (ag _) (.cells #[.int .i64 (7680+(k:Int)),.slice A1 kJ.length c1] 89);have nG:=jP (Bk.new w5 89 #[.int .i64 (7680+(k:Int)),.slice A1 kJ.length c1]);have HD6:=jP (HD5.1.below hal);have o6:=HD6.1.mb;refine rk hK o6 fun hHeld=>?_;clear hK K;obtain⟨z,hz⟩:∃ z,z=w5.heap.size:=⟨_,rfl⟩;rw[<-hz] at nG ⊢;clear hal;generalize w5.alloc (.cells #[.int .i64 (7680+(k:Int)),.slice A1 kJ.length c1] 89)=w6 at *;clear hz;refine rc 4 fun K hK=>?_;obtain⟨hcl,hcf⟩:=HD6.1.mc.tb.cell (k:=9) (by omega);go_simp
           refine rk hK o6 fun hHeld=>?_;clear hK K hcl hcf;obtain⟨cs,m1,m2,m3⟩:=HD6.1.mc.mp.row;have uI:Rd w6 w6.heap.size 2 (some ⟨z,0,none⟩) 1 [.int .i64 (7680+(k:Int)),.slice A1 kJ.length c1]:=⟨rfl,fun _=>⟨z,0,rfl,nG.1.lt,fun i u hu=>by rw[nG.1.cell,bf];simpa using hu⟩⟩;obtain⟨A8,c8,w8,hrun,oZ,nN,AZ⟩:=xW (w:=w6) 24 (base:=x.heap.size) m1 uI (c:=1) (by intro u hu;simp at hu;rcases hu with rfl | rfl<;>rfl) (by have:=HP.1.dl;omega) HD6.1.mc.ot.size;refine rc 7 fun K hK=>?_;refine a_ _ _ _ _ _ rfl (.slice (S' 9).A (S' 9).n (S' 9).c) (.slice (some ⟨z,0,none⟩) 1 1) rfl rfl _ _ hrun ?_;have qM:=jP (show Bk w8 zb 89 #[.int .i64 (7680+(k:Int)),.slice A1 kJ.length c1] from HD6.1.bx.jS (kR nN) HD6.1.zn);have uM:Mb zb (7680+(k:Int)) A1 kJ.length c1 w8:=Mb.BO qM.1;refine rk hK uM fun hHeld=>?_;clear hK K;refine tk 8 ?_;refine tk 9 ?_;refine rc 10 fun K hK=>?_;have vO:=jP (HD6.1.fin m1 m2 m3 nN oZ AZ);have qL:=jP (show Bk w8 gt 26 (kK (wG S')) from HD6.1.mc.tb.bx.jS (kR nN) (fun hm=>by
            obtain⟨cs,hb⟩:=kV m1 gt hm;exact Bk.ne hb HD6.1.mc.tb.bx (by decide) rfl))
           have hcz:=qL.1.cell 9;have hfz:=qL.1.frozen 9;have hzn:=HD6.1.gl;have hzl:=HD6.1.zl;go_simp
           refine rk hK (uM.far (p:=⟨gt,9,none⟩) (by show zb≠gt;omega) _) fun hHeld=>?_;clear hK K;refine aJ (by kernel_rfl) ?_ _;go_wp2_with fail
           go_roundw
           case rel=>exact⟨k+1,_,_,_,_,by omega,by go_num,vO.1.1,vO.1.2,HP.1.add (by omega) Rw.1 Ru.1 HE'.1,fun i h9 h10=>by unfold nZ;rw[ah h9,HS'.1 i h10,HS.1 i h9 h10]⟩
           case measure=>simp only[intOf]<;>omega
  ·obtain rfl:k=5:=by omega
   go_wp2_with fail
   go_end0
   refine⟨rfl,S,d,ex,(bs++(jT (S 9).A++ts))++jT (S 10).A,?_,?_,HM.1.src,HM.1.ot,HP.1,HS.1⟩
   ·have t1:=HM.1.tb;have k9:=uD.YO (T:=(T.Iu ex).sQ 9 d) (k:=9) HM.1.mp (by omega) rfl;have k10:=uD.ints (T:=(T.Iu ex).sQ 9 d) HE.1.own rfl;have hgt:=HM.1.kl gt HM.1.kt;have t2:oC [10] gt S ((T.sQ 9 d)) (bs++(jT (S 9).A++ts)) wr:=t1.shut (T':=T.sQ 9 d) (fun j hj hne z B h=>Gu T 9 (by omega) d j hne hj z B (S j) h) (uD.YO (T:=T.sQ 9 d) (k:=9) HM.1.mp (by omega) rfl) (fun hm=>by
     rcases aO.1 hm with e | e
     ·have:=(HM.1.mp.oI _ e).1;omega
     ·have:=(HM.1.mp.ty _ e).1;omega)
    exact t2.shut (T':=(T.Iu ex).sQ 9 d) (fun j hj hne z B h=>aeL (T.sQ 9 d) ex j hne z B (S j) h) k10 (fun hm=>by have:=(HE.1.oI _ hm).1;omega)
   ·intro q hq;rcases aO.1 hq with e | e
    ·rcases aO.1 e with e | e
     ·exact .inl e
     ·rcases aO.1 e with e | e
      ·exact .inr (HM.1.mp.oI _ e).1
      ·exact .inr (HM.1.mp.ty _ e).1
    ·exact .inr (HE.1.oI _ e).1
end Go.Proofs.YtkachcflifhgiaaGreatDoor
