/-      -/
import Derived.Test.YtkachcflifhgiaaGreatDoorM30
import Derived.Test.YtkachcflifhgiaaGreatDoorGzPZ
import Derived.StillTailTactics
import Derived.Test.YtkachcflifhgiaaGreatDoorM28
import Derived.Test.YtkachcflifhgiaaGreatDoorM13
import Derived.Test.YtkachcflifhgiaaGreatDoorM29
set_option linter.unusedVariables false
set_option maxRecDepth 100000
set_option maxHeartbeats 16000000
namespace Go.Proofs.YtkachcflifhgiaaGreatDoor
open Go Go.RowKit Go.Shelf
def ah_ (x:World)(g gt q0:Nat)(S0:Nat->Sl)(T:Gm.Tab)(bs:List Nat)(e:Ending)(y:World):Prop:=
 e=.returned (.tuple #[])/\∃ S l mp bs',oC [] gt S ((T.sZ 5 l).sQ 8 mp) bs' y/\(∀ q∈bs',q∈bs\/x.heap.size<=q)/\nC y g/\jR [g,gt,q0] x y/\wE 28 l mp/\∀ i,i≠5->i≠8->S i=S0 i
def Mst (c:Int)(mp mp':List Gm.Mp)(v:Int):Prop:=(mp'=mp/\(v=0\/v=1\/v=2\/v=4))\/(v=3/\(c=947\/c=7684\/c=128512)/\∃ j kJ,(97<=j/\j<=99)/\(kJ=[j]\/kJ=[j,46])/\mp'=mp++[⟨c,kJ⟩])
theorem Mst.pre {k:Nat}{c v:Int}{l:List Rg.Sn}{mp mp':List Gm.Mp}(h:Mst c mp mp' v)(hp:wE k l mp)(hc:Gm.nR[k]?=some c):wE (k+1) (oz l ⟨c,c,v⟩) mp':=by
 rcases h with ⟨rfl,hv⟩ | ⟨rfl,hs,j,kJ,hj,ht,rfl⟩
 ·exact hp.plain hc hv
 ·exact hp.map hc hs hj ht
theorem ah5 (T:Gm.Tab)(l:List Rg.Sn)(s:Rg.Sn):vC (T.sZ 5 l) 5 s=T.sZ 5 (oz l s):=by unfold vC oz;split<;>rfl
theorem Mw.mb {x y:World}{g gt q0 bp base qC zb n1 c1:Nat}{c0:Int}{T:Gm.Tab}{bs ou ts:List Nat}{S:Nat->Sl}{l:List Rg.Sn}{mp:List Gm.Mp}{st kJ:List Int}{A1:Option Addr}(h:Mw x g gt q0 bp base qC T bs S l mp ts st ou zb c0 A1 n1 c1 kJ y):Mb zb c0 A1 n1 c1 y:=Mb.BO h.bx
structure Sb (q0 i:Nat)(v:Int)(x:World):Prop where
 s:x.cell? ⟨q0,i,none⟩=some (.int .i64 v)
theorem Sb.conj {q0 i:Nat}{v:Int}{x:World}(h:Sb q0 i v x):x.cell? ⟨q0,i,none⟩=some (.int .i64 v):=h.s
theorem ag0 {x:World}{g gt q0 base qC:Nat}{S0:Nat->Sl}{T:Gm.Tab}{bs:List Nat}{st0:List Int}(hs:nC x g)(ht:oC [] gt S0 T bs x)(hg:g∉bs)(hlt:g<gt)(hq:gt<q0)(AQ:q0∉bs)(h8:S0 8=Sl.z)(hT:T.jU=[])
  (hst:x.ownsRow base 3 1 (.slice (some ⟨q0,0,none⟩) 28 qC) 28 (ints st0)) (hv:∀ s∈st0,s=0\/s=1\/s=2\/s=4) :
  Calls Tryz.prog 31 #[.pointer (some ⟨g,0,none⟩),.pointer (some ⟨gt,0,none⟩),.slice (some ⟨q0,0,none⟩) 28 qC] x (ah_ x g gt q0 S0 T bs):=by
 have hql:=(own_base hst).2;have wB:=jP (show Mc [8] 8 [g,gt,q0] x g gt (T.sZ 5 []) bs S0 [] [] x from ⟨hs,by
  have h:=ht.open_ 8;have e:T.sZ 5 []=T:=by cases T;simp only at hT;subst hT;rfl
  rw[e];exact h,by simp,by rw[h8];exact uK.nil _ _,jR.refl _ _,by simp,by simp,fun q hq=>by
  simp at hq;rcases hq with rfl | rfl | rfl
  ·exact hs.lt
  ·exact ht.bx.lt
  ·exact hql,fun q hq hm=>by
  simp at hq;rcases hq with rfl | rfl | rfl
  ·exact hg hm
  ·exact ht.no hm
  ·exact AQ hm,by rw[h8];simp[jT,Sl.z],hlt⟩)
 have HQ:=jP hq;have HST:=jP hst;have HV:=jP hv;have HL:=jP (show st0.length=28 by have:=hst.1;simpa[ints] using this);clear hs ht hg hlt hq AQ h8 hT hst hv;go_enter Tryz.func31,Tryz.ntmps31
 go_wp2_with fail
 refine (Iy _).mono ?_;rintro e w1 ⟨bp,rfl,hbp,hbw,hb1⟩;have HT1:=jP (show Mt x g gt q0 bp base qC T bs S0 [] [] [] st0 bs w1 from ⟨wB.1.below hb1,kD HST.1 hb1,hbp,hbw,HQ.1,fun q hq=>.inl hq⟩);clear hbp hbw hb1 wB HST hql;go_wp2_with fail
 go_loopw [13] (fun vi wr=>∃ (k:Nat) (S:Nat->Sl) (l:List Rg.Sn) (mp:List Gm.Mp) (ts:List Nat) (st:List Int) (ou:List Nat),k<=28/\vi=.int .i64 k/\Mt x g gt q0 bp base qC T bs S l mp ts st ou wr/\wE k l mp/\st.length=28/\(∀ (j:Nat) (s:Int),k<=j->st[j]?=some s->s=0\/s=1\/s=2\/s=4)/\∀ i,i≠5->i≠8->S i=S0 i) (fun vi _=>28-(intOf vi).toNat)
 case atStart=>exact⟨0,S0,[],[],[],st0,bs,by omega,rfl,HT1.1,wE.start,HL.1,fun j s _ h=>HV.1 s (ay h),fun _ _ _=>rfl⟩
 case round=>
  obtain⟨k,S,l,mp,ts,st,ou,hk,rfl,hm,hp,hl,hv,hS⟩:=hrel;have HM:=jP hm;have HP:=jP hp;have HL2:=jP hl;have uk:=jP hv;have HS:=jP hS;clear hm hp hl hv hS HT1 HL HV;by_cases hlt:k<28
  ·obtain⟨c,hc⟩:∃ c,Gm.nR[k]?=some c:=⟨_,au (by exact hlt)⟩;have x0:wr.cell? ⟨bp,k,none⟩=some (.int .i64 c):=rP.cell HM.1.pb hc;have HC:=jP hc;clear hc;go_upto_region 4 with (fail)
   go_cut [7,8,32,13] from 13 to 74 (fun v7 v8 v32 v13 wx=>v13=.int .i64 (k:Int)/\v7=.int .i64 (k:Int)/\v8=.int .i64 c/\∃ b:Bool,v32=.bool b/\(b=true->c=947\/c=7684\/c=128512)/\Mt x g gt q0 bp base qC T bs S l mp ts st ou wx)
   case first=>
    by_cases h1:c=128512
    ·subst h1;go_wp2_with fail
     go_meet
     case rel=>exact⟨rfl,rfl,rfl,true,rfl,fun _=>by simp,HM.1⟩
    ·have h1b:(c==128512)=false:=by simpa using h1
     by_cases h2:c=7684
     ·subst h2;clear h1 h1b;go_wp2_with fail
      go_meet
      case rel=>exact⟨rfl,rfl,rfl,true,rfl,fun _=>by simp,HM.1⟩
     ·have h2b:(c==7684)=false:=by simpa using h2
      by_cases h3:c=947
      ·subst h3;clear h1 h1b h2 h2b;go_wp2_with fail
       refine (lK HM.1.mc.src 2 (by omega) (by omega)).mono ?_;rintro e w2 ⟨r,rfl,r0,r1,hs,ho⟩;have oN:=jP (HM.1.turn hs ho);clear hs ho HM x0;go_wp2_with fail
       go_meet
       case rel=>exact⟨rfl,rfl,rfl,(r==0),rfl,fun _=>by simp,oN.1⟩
      ·have h3b:(c==947)=false:=by simpa using h3
       clear h1 h2 h3;go_wp2_with fail
       go_meet
       case rel=>exact⟨rfl,rfl,rfl,false,rfl,by simp,HM.1⟩
   case rest=>
    obtain⟨rfl,rfl,rfl,b,rfl,hb,hm⟩:=hcut;have HM:=jP hm;have HB:=jP hb;clear hm hb x0;obtain⟨v0,hv0⟩:∃ v,st[k]?=some v:=⟨_,au (by have:=HL2.1;omega)⟩;have xK:=jP hv0;have HVV:=jP (uk.1 k v0 (ag _) hv0);clear hv0;go_upto_if 32 with fail
    go_cut [7,8,13] from 13 to 74 (fun v7 v8 v13 wx=>v13=.int .i64 (k:Int)/\v7=.int .i64 (k:Int)/\v8=.int .i64 c/\∃ (S':Nat->Sl) (mp':List Gm.Mp) (ts':List Nat) (st':List Int) (v:Int),st'[k]?=some v/\Mst c mp mp' v/\Mt x g gt q0 bp base qC T bs S' l mp' ts' st' ou wx/\st'.length=28/\(∀ (j:Nat),k<j->st'[j]?=st[j]?)/\∀ i,i≠8->S' i=S i)
    case first=>
     cases b
     ·go_wp2_with fail
      go_meet
      case rel=>exact⟨rfl,rfl,rfl,S,mp,ts,st,v0,xK.1,.inl ⟨rfl,HVV.1⟩,HM.1,HL2.1,fun _ _=>rfl,fun _ _=>rfl⟩
     ·have Es:=jP (HB.1 rfl);clear HB;go_wp2_with fail
      refine (lK HM.1.mc.src 3 (by omega) (by omega)).mono ?_;rintro e w2 ⟨r2,rfl,r20,r21,hs,ho⟩;have oN:=jP (HM.1.turn hs ho);have HR2:=jP (show 97<=97+r2/\97+r2<=99 by omega);have hw2:wrap64 (97+r2)=97+r2:=dH _ (by omega);clear hs ho HM;obtain⟨za,hza⟩:∃ z,z=w2.heap.size:=⟨_,rfl⟩;have HW3:=jP (Mw.start oN.1 c (97+r2));rw[<-hza] at HW3;clear oN;go_upto_region 6 with (fail)
      try rw[hw2]
      rw[<-hza];generalize (w2.alloc (.cells #[.int .i64 (97+r2)] 3)).alloc (.cells #[.int .i64 c,.slice (some ⟨za,0,none⟩) 1 1] 89)=w3 at *;obtain⟨zb,hzb⟩:∃ z,z=za+1:=⟨_,rfl⟩;rw[<-hzb] at HW3 ⊢;clear hzb hza;go_wp2_with fail
      refine (lK HW3.1.mt.mc.src 2 (by omega) (by omega)).mono ?_;rintro e w4 ⟨r4,rfl,_,_,hs,ho⟩;have sK:=jP (HW3.1.turn hs ho);clear hs ho HW3;go_upto_if 41 with fail
      go_cut [7,8,9,13] from 13 to 74 (fun v7 v8 v9 v13 wx=>v13=.int .i64 (k:Int)/\v7=.int .i64 (k:Int)/\v8=.int .i64 c/\v9=.pointer (some ⟨zb,0,none⟩)/\∃ (A1:Option Addr) (c1:Nat) (kJ:List Int),(kJ=[97+r2]\/kJ=[97+r2,46])/\Mw x g gt q0 bp base qC T bs S l mp ts st ou zb c A1 kJ.length c1 kJ wx)
      case first=>
       by_cases hr4:r4=0
       ·subst hr4;have yb1:=sK.1.bx.cell 1;have H7:=jP sK.1.mt.mc.ot.size;go_wp2_with (at_builtin;refine kW (by rfl) _ _ rfl (base:=x.heap.size) (xs:=[97+r2]) rfl (kD sK.1.nr.own ((ai _ _).alloc (ag _) _)) rfl (kG (z:=w4.heap.size) rfl 46) (by omega) (by have:=H7.1;simp<;>omega) ?_)
        intro A9 c9 w9 ni nJ nD;have uj:=jP (sK.1.below ((ai _ _).alloc (ag _) (.cells #[.int .i64 46] 3)));obtain⟨nK,qP⟩:=uj.1.grow nJ ni (nD.imp id (fun e=>e.trans (by simp)));have HW9:=jP qP;have hcz:=nK.cell 1;have hfz:=nK.frozen 1;clear qP ni nJ nD uj sK;go_wp2_with fail
        go_meet
        case rel=>exact⟨rfl,rfl,rfl,rfl,A9,c9,[97+r2,46],.inr rfl,HW9.1⟩
       ·have hrb:(r4==0)=false:=by simpa using hr4
        clear hr4;go_wp2_with fail
        go_meet
        case rel=>exact⟨rfl,rfl,rfl,rfl,some ⟨za,0,none⟩,1,[97+r2],.inl rfl,sK.1⟩
      case rest=>
       obtain⟨rfl,rfl,rfl,rfl,A1,c1,kJ,hto,hw⟩:=hcut;have uj:=jP hw;have Rw:=jP hto;clear hw hto sK;go_wp2_with fail
       refine (lK uj.1.mt.mc.src 3 (by omega) (by omega)).mono ?_;rintro e w6 ⟨r6,rfl,_,_,hs,ho⟩;have zJ:=jP (uj.1.turn hs ho);clear hs ho uj;by_cases Hf:0<r6
       ·go_upto_region 9 with (fail)
        refine aI (S:=Mb zb c A1 kJ.length c1) (by kernel_rfl) (zJ.1.mb.drew) (fun hHeld=>?_);have HD5:=jP (zJ.1.below ((ai _ _).drew));clear zJ;have uN:=HD5.1.mb;generalize w6.drew=w5 at *;refine tk 0 ?_;refine tk 1 ?_;refine tk 2 ?_;refine tk 3 ?_;refine tk 5 ?_;refine Au 4 6 (fun K hK=>?_) (fun K hK=>?_)
        ·obtain⟨hcl,hcf⟩:=HD5.1.mt.mc.tb.cell (k:=8) (by omega);go_simp
         refine rk hK uN fun hHeld=>?_;clear hK K hcl hcf;refine rc 6 fun K hK=>?_;go_simp
         have hal:=(ai w5.heap.size w5).alloc (ag _) (.cells #[.int .i64 c,.slice A1 kJ.length c1] 89);have nG:=jP (Bk.new w5 89 #[.int .i64 c,.slice A1 kJ.length c1]);have HD6:=jP (HD5.1.below hal);have o6:=HD6.1.mb;refine rk hK o6 fun hHeld=>?_;clear hK K;obtain⟨z,hz⟩:∃ z,z=w5.heap.size:=⟨_,rfl⟩;rw[<-hz] at nG ⊢;clear hal;generalize w5.alloc (.cells #[.int .i64 c,.slice A1 kJ.length c1] 89)=w6 at *;clear hz;obtain⟨cs,m1,m2,m3⟩:=HD6.1.mt.mc.mp.row;have uI:Rd w6 w6.heap.size 2 (some ⟨z,0,none⟩) 1 [.int .i64 c,.slice A1 kJ.length c1]:=⟨rfl,fun _=>⟨z,0,rfl,nG.1.lt,fun i u hu=>by rw[nG.1.cell,bf];simpa using hu⟩⟩;obtain⟨A8,c8,w8,hrun,oZ,nN,AZ⟩:=xW (w:=w6) 24 (base:=x.heap.size) m1 uI (c:=1) (by intro u hu;simp at hu;rcases hu with rfl | rfl<;>rfl) (by have:=HP.1.len;omega) HD6.1.mt.mc.ot.size;refine rc 7 fun K hK=>?_;refine a_ _ _ _ _ _ rfl (.slice (S 8).A (S 8).n (S 8).c) (.slice (some ⟨z,0,none⟩) 1 1) rfl rfl _ _ hrun ?_;have qM:=jP (show Bk w8 zb 89 #[.int .i64 c,.slice A1 kJ.length c1] from HD6.1.bx.jS (kR nN) HD6.1.zn);have uM:Mb zb c A1 kJ.length c1 w8:=Mb.BO qM.1;refine rk hK uM fun hHeld=>?_;clear hK K;refine tk 8 ?_;refine tk 9 ?_;refine rc 10 fun K hK=>?_;have vO:=jP (HD6.1.fin m1 m2 m3 nN oZ AZ);have qL:=jP (show Bk w8 gt 26 (kK (wG S)) from HD6.1.mt.mc.tb.bx.jS (kR nN) (fun hm=>by
          obtain⟨cs,hb⟩:=kV m1 gt hm;exact Bk.ne hb HD6.1.mt.mc.tb.bx (by decide) rfl))
         have hcz:=qL.1.cell 8;have hfz:=qL.1.frozen 8;have hzn:=HD6.1.mt.kl;have hzl:=HD6.1.zl;go_simp
         refine rk hK (uM.far (p:=⟨gt,8,none⟩) (by show zb≠gt;omega) _) fun hHeld=>?_;clear hK K;refine aJ (by kernel_rfl) ?_ _;generalize qP:w8.setCell ⟨gt,8,none⟩ (.slice A8 ((S 8).n+1) c8)=w9 at *;clear qP;have hcs:=(qj vO.1.st (i:=k) (v:=.int .i64 v0) (by rw[ints_at,xK.1];rfl)).1;have hfs:=(qj vO.1.st (i:=k) (v:=.int .i64 v0) (by rw[ints_at,xK.1];rfl)).2;have HDY:=jP (vO.1.set hlt 3);go_wp2_with fail
         go_meet
         case rel=>exact⟨rfl,rfl,rfl,_,_,_,_,3,by rw[gy (by rw[HL2.1];exact hlt)],.inr ⟨rfl,Es.1,97+r2,kJ,HR2.1,Rw.1,rfl⟩,HDY.1,by rw[dU];exact HL2.1,fun j hj=>by rw[g_ (by omega)],fun i hi=>by unfold nZ;rw[ah hi]⟩
        ·go_simp
         have hal:=(ai w5.heap.size w5).alloc (ag _) (.cells #[.int .i64 c,.slice A1 kJ.length c1] 89);have nG:=jP (Bk.new w5 89 #[.int .i64 c,.slice A1 kJ.length c1]);have HD6:=jP (HD5.1.below hal);have o6:=HD6.1.mb;refine rk hK o6 fun hHeld=>?_;clear hK K;obtain⟨z,hz⟩:∃ z,z=w5.heap.size:=⟨_,rfl⟩;rw[<-hz] at nG ⊢;clear hal;generalize w5.alloc (.cells #[.int .i64 c,.slice A1 kJ.length c1] 89)=w6 at *;clear hz;refine rc 4 fun K hK=>?_;obtain⟨hcl,hcf⟩:=HD6.1.mt.mc.tb.cell (k:=8) (by omega);go_simp
         refine rk hK o6 fun hHeld=>?_;clear hK K hcl hcf;obtain⟨cs,m1,m2,m3⟩:=HD6.1.mt.mc.mp.row;have uI:Rd w6 w6.heap.size 2 (some ⟨z,0,none⟩) 1 [.int .i64 c,.slice A1 kJ.length c1]:=⟨rfl,fun _=>⟨z,0,rfl,nG.1.lt,fun i u hu=>by rw[nG.1.cell,bf];simpa using hu⟩⟩;obtain⟨A8,c8,w8,hrun,oZ,nN,AZ⟩:=xW (w:=w6) 24 (base:=x.heap.size) m1 uI (c:=1) (by intro u hu;simp at hu;rcases hu with rfl | rfl<;>rfl) (by have:=HP.1.len;omega) HD6.1.mt.mc.ot.size;refine rc 7 fun K hK=>?_;refine a_ _ _ _ _ _ rfl (.slice (S 8).A (S 8).n (S 8).c) (.slice (some ⟨z,0,none⟩) 1 1) rfl rfl _ _ hrun ?_;have qM:=jP (show Bk w8 zb 89 #[.int .i64 c,.slice A1 kJ.length c1] from HD6.1.bx.jS (kR nN) HD6.1.zn);have uM:Mb zb c A1 kJ.length c1 w8:=Mb.BO qM.1;refine rk hK uM fun hHeld=>?_;clear hK K;refine tk 8 ?_;refine tk 9 ?_;refine rc 10 fun K hK=>?_;have vO:=jP (HD6.1.fin m1 m2 m3 nN oZ AZ);have qL:=jP (show Bk w8 gt 26 (kK (wG S)) from HD6.1.mt.mc.tb.bx.jS (kR nN) (fun hm=>by
          obtain⟨cs,hb⟩:=kV m1 gt hm;exact Bk.ne hb HD6.1.mt.mc.tb.bx (by decide) rfl))
         have hcz:=qL.1.cell 8;have hfz:=qL.1.frozen 8;have hzn:=HD6.1.mt.kl;have hzl:=HD6.1.zl;go_simp
         refine rk hK (uM.far (p:=⟨gt,8,none⟩) (by show zb≠gt;omega) _) fun hHeld=>?_;clear hK K;refine aJ (by kernel_rfl) ?_ _;generalize qP:w8.setCell ⟨gt,8,none⟩ (.slice A8 ((S 8).n+1) c8)=w9 at *;clear qP;have hcs:=(qj vO.1.st (i:=k) (v:=.int .i64 v0) (by rw[ints_at,xK.1];rfl)).1;have hfs:=(qj vO.1.st (i:=k) (v:=.int .i64 v0) (by rw[ints_at,xK.1];rfl)).2;have HDY:=jP (vO.1.set hlt 3);go_wp2_with fail
         go_meet
         case rel=>exact⟨rfl,rfl,rfl,_,_,_,_,3,by rw[gy (by rw[HL2.1];exact hlt)],.inr ⟨rfl,Es.1,97+r2,kJ,HR2.1,Rw.1,rfl⟩,HDY.1,by rw[dU];exact HL2.1,fun j hj=>by rw[g_ (by omega)],fun i hi=>by unfold nZ;rw[ah hi]⟩
       ·go_wp2_with fail
        go_meet
        case rel=>exact⟨rfl,rfl,rfl,S,mp,ts,st,v0,xK.1,.inl ⟨rfl,HVV.1⟩,zJ.1.mt,HL2.1,fun _ _=>rfl,fun _ _=>rfl⟩
    case rest=>
     obtain⟨rfl,rfl,rfl,S',mp',ts',st',v,hv,ahp,hm,hl,hj,hS'⟩:=hcut;have y_:=jP hm;have HMS:=jP ahp;have Cc:=jP hv;have RV:=jP hl;have HJ:=jP hj;have mg:=jP hS';clear hm ahp hv hl hj hS' HM;go_upto_region 11 with (fail)
     have hcs:=(qj y_.1.st (i:=k) (v:=.int .i64 v) (by rw[ints_at,Cc.1];rfl)).1;refine aI (S:=Sb q0 k v) (by kernel_rfl) (⟨hcs⟩) (fun hHeld=>?_);have Cm:=jP (y_.1.below ((ai _ _).drew));have uN:Sb q0 k v wc.drew:=⟨hcs⟩;clear hcs y_;generalize wc.drew=w5 at *;have HKL:=jP Cm.1.kl;refine tk 0 ?_;refine tk 1 ?_;refine tk 2 ?_;refine tk 3 ?_;refine tk 4 ?_;refine tk 5 ?_;refine tk 6 ?_;refine tk 7 ?_;refine tk 8 ?_;refine tk 9 ?_;refine rc 10 fun K hK=>?_;go_simp
     refine (uJ Cm.1.mc.tb (show 5<7 by omega) (by simp) (show (xI (T.sZ 5 l) 5).length<=1000 by rw[Uh T 5 (by omega) l];have:=HP.1.col.len;omega) c c 0 v).mono ?_;rintro e w6 ⟨rfl,S6,FD,ht,hbs,ho,hS6⟩;rw[ah5] at ht;have yZ:=jP (Cm.1.col ht hbs ho (hS6 8 (by omega)));have o6:Sb q0 k v w6:=⟨(ho.cell (p:=⟨q0,k,none⟩) (by have:=Cm.1.mc.ot.size;have:=HKL.1;show q0<w5.heap.size;omega) (by have:=HKL.1;simp;omega)).trans uN.s⟩;have al9:=jP hS6;clear ht hbs ho hS6 Cm uN;refine rk hK o6 fun hHeld=>?_;clear hK K;refine aJ (by kernel_rfl) ?_ _;go_wp2_with fail
     go_roundw
     case rel=>exact⟨k+1,S6,_,mp',ts',st',FD,by omega,by go_num,yZ.1,HMS.1.pre HP.1 HC.1,RV.1,fun j s hj hs=>uk.1 j s (by omega) (by rw[<-HJ.1 j (by omega)];exact hs),fun i h5 h8=>by rw[al9.1 i h5,mg.1 i h8,HS.1 i h5 h8]⟩
     case measure=>simp only[intOf]<;>omega
  ·obtain rfl:k=28:=by omega
   go_wp2_with fail
   go_end0
   refine⟨rfl,S,l,mp,ou++(jT (S 8).A++ts),?_,?_,HM.1.mc.src,HM.1.mc.ot,HP.1,HS.1⟩
   ·have hk:=HM.1.kl;exact HM.1.mc.tb.shut (T':=(T.sZ 5 l).sQ 8 mp) (fun j hj hne z B h=>Gu (T.sZ 5 l) 8 (by omega) mp j hne hj z B (S j) h) (uD.YO (T:=(T.sZ 5 l).sQ 8 mp) (k:=8) HM.1.mc.mp (by omega) rfl) (fun hm=>by
     rcases aO.1 hm with e | e
     ·have:=(HM.1.mc.mp.oI _ e).1;omega
     ·have:=(HM.1.mc.mp.ty _ e).1;omega)
   ·intro q hq;rcases aO.1 hq with e | e
    ·exact HM.1.bb q e
    ·rcases aO.1 e with e | e
     ·exact .inr (HM.1.mc.mp.oI _ e).1
     ·exact .inr (HM.1.mc.mp.ty _ e).1
def ah9 (x:World)(g gt:Nat)(S0:Nat->Sl)(T:Gm.Tab)(bs:List Nat)(e:Ending)(y:World):Prop:=
 e=.returned (.tuple #[])/\∃ S p bs',oC [] gt S (T.sQ 11 p) bs' y/\(∀ q∈bs',q∈bs\/x.heap.size<=q)/\nC y g/\jR [g,gt] x y/\zo 5 T.jW p/\∀ i,i≠11->S i=S0 i
theorem B_.bk {y:World}{b:Nat}{kJ:List Int}(h:Bk y b 3 (ints kJ).toArray):B_ y [b] (some ⟨b,0,none⟩) kJ:=by
 intro z B hz hB;have hb:Bk z b 3 (ints kJ).toArray:=(hz b (by simp)).trans h;refine⟨by rw[kH];omega,fun _=>⟨b,0,rfl,hB b (by simp),fun j u hu=>?_⟩⟩;rw[hb.cell,bf];simpa using hu
def PrC (b:Nat->Nat):Array Value:=#[.int .i64 48,.slice (some ⟨b 0,0,none⟩) 1 1,.int .i64 109,.slice (some ⟨b 1,0,none⟩) 2 2,.int .i64 945,.slice (some ⟨b 2,0,none⟩) 1 1,.int .i64 1072,.slice (some ⟨b 3,0,none⟩) 1 1,.int .i64 1632,.slice (some ⟨b 4,0,none⟩) 2 2]
structure Pt (x:World)(g gt rb:Nat)(b:Nat->Nat)(T:Gm.Tab)(bs:List Nat)(S:Nat->Sl)(p:List Gm.Mp)(ts:List Nat)(y:World):Prop where
 mc:Mc [11] 11 [g,gt] x g gt T bs S p ts y
 OV:Bk y rb 89 (PrC b)
 rl:x.heap.size<=rb
 rn:rb∉jT (S 11).A
 bi:∀ i,i<5->x.heap.size<=b i/\Bk y (b i) 3 (ints ((Gm.uS.getD i ⟨0,[]⟩).to)).toArray
section
variable {x y z:World} {g gt rb:Nat} {b:Nat->Nat} {T:Gm.Tab} {bs ts:List Nat} {S:Nat->Sl} {p:List Gm.Mp}
theorem Pt.kl (h:Pt x g gt rb b T bs S p ts y):g<gt/\gt<x.heap.size:=⟨h.mc.lt,h.mc.kl gt (by simp)⟩
theorem Pt.turn (h:Pt x g gt rb b T bs S p ts y)(hs:nC z g)(ho:jR [g] y z):Pt x g gt rb b T bs S p ts z:=by
 have hk:=h.kl;have hr:=h.rl;exact⟨h.mc.turn hs ho,h.OV.jS ho (by simp;omega),h.rl,h.rn,fun i hi=>⟨(h.bi i hi).1,(h.bi i hi).2.jS ho (by have:=(h.bi i hi).1;simp;omega)⟩⟩
theorem Pt.below (h:Pt x g gt rb b T bs S p ts y)(hb:Below y.heap.size y z):Pt x g gt rb b T bs S p ts z:=
 ⟨h.mc.below hb,h.OV.below hb h.OV.lt,h.rl,h.rn,fun i hi=>⟨(h.bi i hi).1,(h.bi i hi).2.below hb (h.bi i hi).2.lt⟩⟩
theorem Pt.put {A2:Option Addr}{c2 i:Nat}{cs:List Value}{m:Gm.Mp}(h:Pt x g gt rb b T bs S p ts y)(hi:i<5)(hm:Gm.uS[i]?=some m)(h1:y.ownsRow x.heap.size 89 2 (.slice (S 11).A (S 11).n (S 11).c) (S 11).n cs)(h2:p.length=(S 11).n)(h3:Kt y cs p ts)
  (hg:y.grownBy z (Value.slice (S 11).A (S 11).n (S 11).c).ownBlock) {c3:Nat} (h5:z.ownsRow x.heap.size 89 2 (.slice A2 ((S 11).n+1) c2) ((S 11).n+1) (cs++[.int .i64 m.f,.slice (some ⟨b i,0,none⟩) m.to.length c3]))
  (hA:(Value.slice A2 ((S 11).n+1) c2).ownBlock=(Value.slice (S 11).A (S 11).n (S 11).c).ownBlock\/(Value.slice A2 ((S 11).n+1) c2).ownBlock=some y.heap.size) :
  Pt x g gt rb b T bs (nZ S 11 ⟨A2,(S 11).n+1,c2⟩) (p++[m]) ([b i]++ts) (z.setCell ⟨gt,11,none⟩ (.slice A2 ((S 11).n+1) c2)):=by
 have hk:=h.kl;have hot:=kR hg;have hst:jR [gt] z (z.setCell ⟨gt,11,none⟩ (.slice A2 ((S 11).n+1) c2)):=(jR.refl [gt] z).setCell (p:=⟨gt,11,none⟩) (.inl (by simp)) _;have hbi:=h.bi i hi;have hto:(Gm.uS.getD i ⟨0,[]⟩).to=m.to:=by rw[aY,hm];rfl
 have hbk:Bk y (b i) 3 (ints m.to).toArray:=by rw[<-hto];exact hbi.2
 have hint:∀ q cs,Bk y q 3 cs->q∉jT (S 11).A:=fun q cs hb hm=>by
  obtain⟨c6,hb6⟩:=kV h1 q hm;exact Bk.ne hb hb6 (by decide) rfl
 have hr:=h.rl;refine⟨h.mc.put (m:=m) h1 h2 h3 (B_.bk hbk) (fun q hq=>by rw[aB.1 hq];exact⟨hbi.1,_,hbk⟩) hg h5 hA,(h.OV.jS hot h.rn).jS hst (by simp;omega),h.rl,fun hm=>?_,fun j hj=>⟨(h.bi j hj).1,((h.bi j hj).2.jS hot (hint _ _ (h.bi j hj).2)).jS hst (by have:=(h.bi j hj).1;simp;omega)⟩⟩;have hm:rb∈jT A2:=hm;rcases o_ hA rb hm with e | e
 ·exact h.rn e
 ·have:=h.OV.lt;omega
end
structure Pb (zb gt bi n:Nat)(f q:Int)(S:Nat->Sl)(x:World):Prop where
 b0:x.cell? ⟨zb,0,none⟩=some (.int .i64 f)
 b1:x.cell? ⟨zb,1,none⟩=some (.slice (some ⟨bi,0,none⟩) (n+1) (n+1))
 la:x.cell? ⟨bi,n,none⟩=some (.int .i64 q)
 tb:∀ k,k<12->x.cell? ⟨gt,k,none⟩=some (.slice (S k).A (S k).n (S k).c)
theorem Pb.conj {zb gt bi n:Nat}{f q:Int}{S:Nat->Sl}{x:World}(h:Pb zb gt bi n f q S x):x.cell? ⟨zb,0,none⟩=some (.int .i64 f)/\x.cell? ⟨zb,1,none⟩=some (.slice (some ⟨bi,0,none⟩) (n+1) (n+1))/\x.cell? ⟨bi,n,none⟩=some (.int .i64 q) /\
 x.cell? ⟨gt,0,none⟩=some (.slice (S 0).A (S 0).n (S 0).c)/\x.cell? ⟨gt,1,none⟩=some (.slice (S 1).A (S 1).n (S 1).c)/\x.cell? ⟨gt,2,none⟩=some (.slice (S 2).A (S 2).n (S 2).c)/\x.cell? ⟨gt,3,none⟩=some (.slice (S 3).A (S 3).n (S 3).c)/\x.cell? ⟨gt,4,none⟩=some (.slice (S 4).A (S 4).n (S 4).c)/\x.cell? ⟨gt,5,none⟩=some (.slice (S 5).A (S 5).n (S 5).c) /\
 x.cell? ⟨gt,6,none⟩=some (.slice (S 6).A (S 6).n (S 6).c)/\x.cell? ⟨gt,7,none⟩=some (.slice (S 7).A (S 7).n (S 7).c)/\x.cell? ⟨gt,8,none⟩=some (.slice (S 8).A (S 8).n (S 8).c)/\x.cell? ⟨gt,9,none⟩=some (.slice (S 9).A (S 9).n (S 9).c)/\x.cell? ⟨gt,10,none⟩=some (.slice (S 10).A (S 10).n (S 10).c)/\x.cell? ⟨gt,11,none⟩=some (.slice (S 11).A (S 11).n (S 11).c):=
 ⟨h.b0,h.b1,h.la,h.tb 0 (by omega),h.tb 1 (by omega),h.tb 2 (by omega),h.tb 3 (by omega),h.tb 4 (by omega),h.tb 5 (by omega),h.tb 6 (by omega),h.tb 7 (by omega),h.tb 8 (by omega),h.tb 9 (by omega),h.tb 10 (by omega),h.tb 11 (by omega)⟩
structure Pw (x:World)(g gt rb:Nat)(b:Nat->Nat)(T:Gm.Tab)(bs:List Nat)(S:Nat->Sl)(p:List Gm.Mp)(ts:List Nat)(zb bi n:Nat)(f:Int)(tl:List Int)(y:World):Prop where
 pt:Pt x g gt rb b T bs S p ts y
 bx:Bk y zb 89 #[.int .i64 f,.slice (some ⟨bi,0,none⟩) (n+1) (n+1)]
 zl:x.heap.size<=zb
 zn:zb∉jT (S 11).A
 ib:Bk y bi 3 (ints tl).toArray
 il:x.heap.size<=bi
structure Pm (zb bi n:Nat)(f:Int)(x:World):Prop where
 b0:x.cell? ⟨zb,0,none⟩=some (.int .i64 f)
 b1:x.cell? ⟨zb,1,none⟩=some (.slice (some ⟨bi,0,none⟩) (n+1) (n+1))
theorem Pm.conj {zb bi n:Nat}{f:Int}{x:World}(h:Pm zb bi n f x):x.cell? ⟨zb,0,none⟩=some (.int .i64 f)/\x.cell? ⟨zb,1,none⟩=some (.slice (some ⟨bi,0,none⟩) (n+1) (n+1)):=⟨h.b0,h.b1⟩
theorem Pm.far {zb bi n:Nat}{f:Int}{x:World}(h:Pm zb bi n f x){p:Addr}(hp:zb≠p.block)(u:Value):Pm zb bi n f (x.setCell p u):=
 ⟨(bQ x p ⟨zb,0,none⟩ u (fun e=>hp (aV Addr.block e).symm)).trans h.b0,(bQ x p ⟨zb,1,none⟩ u (fun e=>hp (aV Addr.block e).symm)).trans h.b1⟩
section
variable {x y z:World} {g gt rb zb bi n:Nat} {b:Nat->Nat} {T:Gm.Tab} {bs ts:List Nat} {S:Nat->Sl} {p:List Gm.Mp} {f q:Int} {tl:List Int}
theorem Pw.turn (h:Pw x g gt rb b T bs S p ts zb bi n f tl y)(hs:nC z g)(ho:jR [g] y z):Pw x g gt rb b T bs S p ts zb bi n f tl z:=by
 have hk:=h.pt.kl;have h1:=h.zl;have h2:=h.il;exact⟨h.pt.turn hs ho,h.bx.jS ho (by simp;omega),h.zl,h.zn,h.ib.jS ho (by simp;omega),h.il⟩
theorem Pw.below (h:Pw x g gt rb b T bs S p ts zb bi n f tl y)(hb:Below y.heap.size y z):Pw x g gt rb b T bs S p ts zb bi n f tl z:=
 ⟨h.pt.below hb,h.bx.below hb h.bx.lt,h.zl,h.zn,h.ib.below hb h.ib.lt,h.il⟩
theorem Pw.mb (h:Pw x g gt rb b T bs S p ts zb bi n f tl y):Pm zb bi n f y:=⟨h.bx.cell 0,h.bx.cell 1⟩
theorem Pw.pb (h:Pw x g gt rb b T bs S p ts zb bi n f tl y)(hq:tl[n]?=some q):Pb zb gt bi n f q S y:=
 ⟨h.bx.cell 0,h.bx.cell 1,rP.cell (O:=tl) h.ib hq,fun k hk=>(h.pt.mc.tb.cell hk).1⟩
end
theorem O_ {x:World}{g gt:Nat}{S0:Nat->Sl}{T:Gm.Tab}{bs:List Nat}(hs:nC x g)(ht:oC [] gt S0 T bs x)(hg:g∉bs)(hlt:g<gt)(h11:S0 11=Sl.z)(hIn:T.jW.length<=28) :
  Calls Tryz.prog 32 #[.pointer (some ⟨g,0,none⟩),.pointer (some ⟨gt,0,none⟩)] x (ah9 x g gt S0 T bs):=by
 have wB:=jP (show Mc [11] 11 [g,gt] x g gt T bs S0 [] [] x from ⟨hs,ht.open_ 11,by simp,by rw[h11];exact uK.nil _ _,jR.refl _ _,by simp,by simp,fun q hq=>by
  simp at hq;rcases hq with rfl | rfl
  ·exact hs.lt
  ·exact ht.bx.lt,fun q hq hm=>by
  simp at hq;rcases hq with rfl | rfl
  ·exact hg hm
  ·exact ht.no hm,by rw[h11];simp[jT,Sl.z],hlt⟩)
 have Vz:=jP hIn;clear hs ht hg hlt h11 hIn;go_enter Tryz.func32,Tryz.ntmps32
 go_wp2_with fail
 have hpt:Pt x g gt (x.heap.size+1+1+1+1+1) (fun i=>x.heap.size+i) T bs S0 [] [] ((((((x.alloc (.cells #[.int .i64 111] 3)).alloc (.cells #[.int .i64 114,.int .i64 110] 3)).alloc (.cells #[.int .i64 97] 3)).alloc (.cells #[.int .i64 97] 3)).alloc (.cells #[.int .i64 111,.int .i64 803] 3)).alloc (.cells #[.int .i64 48,.slice (some ⟨x.heap.size,0,none⟩) 1 1,.int .i64 109,.slice (some ⟨x.heap.size+1,0,none⟩) 2 2,.int .i64 945,.slice (some ⟨x.heap.size+1+1,0,none⟩) 1 1,.int .i64 1072,.slice (some ⟨x.heap.size+1+1+1,0,none⟩) 1 1,.int .i64 1632,.slice (some ⟨x.heap.size+1+1+1+1,0,none⟩) 2 2] 89)):=by
  have b0:Below x.heap.size x (x.alloc (.cells #[.int .i64 111] 3)):=(ai _ _).alloc (ag _) _;have b1:Below x.heap.size x ((x.alloc (.cells #[.int .i64 111] 3)).alloc (.cells #[.int .i64 114,.int .i64 110] 3)):=b0.alloc b0.size _;have b2:Below x.heap.size x (((x.alloc (.cells #[.int .i64 111] 3)).alloc (.cells #[.int .i64 114,.int .i64 110] 3)).alloc (.cells #[.int .i64 97] 3)):=b1.alloc b1.size _;have b3:Below x.heap.size x ((((x.alloc (.cells #[.int .i64 111] 3)).alloc (.cells #[.int .i64 114,.int .i64 110] 3)).alloc (.cells #[.int .i64 97] 3)).alloc (.cells #[.int .i64 97] 3)):=b2.alloc b2.size _;have b4:Below x.heap.size x (((((x.alloc (.cells #[.int .i64 111] 3)).alloc (.cells #[.int .i64 114,.int .i64 110] 3)).alloc (.cells #[.int .i64 97] 3)).alloc (.cells #[.int .i64 97] 3)).alloc (.cells #[.int .i64 111,.int .i64 803] 3)):=b3.alloc b3.size _;have b5:Below x.heap.size x ((((((x.alloc (.cells #[.int .i64 111] 3)).alloc (.cells #[.int .i64 114,.int .i64 110] 3)).alloc (.cells #[.int .i64 97] 3)).alloc (.cells #[.int .i64 97] 3)).alloc (.cells #[.int .i64 111,.int .i64 803] 3)).alloc (.cells #[.int .i64 48,.slice (some ⟨x.heap.size,0,none⟩) 1 1,.int .i64 109,.slice (some ⟨x.heap.size+1,0,none⟩) 2 2,.int .i64 945,.slice (some ⟨x.heap.size+1+1,0,none⟩) 1 1,.int .i64 1072,.slice (some ⟨x.heap.size+1+1+1,0,none⟩) 1 1,.int .i64 1632,.slice (some ⟨x.heap.size+1+1+1+1,0,none⟩) 2 2] 89)):=b4.alloc b4.size _;have k0:Bk (x.alloc (.cells #[.int .i64 111] 3)) x.heap.size 3 #[.int .i64 111]:=Bk.new _ _ _;have k1:Bk ((x.alloc (.cells #[.int .i64 111] 3)).alloc (.cells #[.int .i64 114,.int .i64 110] 3)) (x.heap.size+1) 3 #[.int .i64 114,.int .i64 110]:=by have:=Bk.new (x.alloc (.cells #[.int .i64 111] 3)) 3 #[.int .i64 114,.int .i64 110];simpa using this
  have k2:Bk (((x.alloc (.cells #[.int .i64 111] 3)).alloc (.cells #[.int .i64 114,.int .i64 110] 3)).alloc (.cells #[.int .i64 97] 3)) (x.heap.size+1+1) 3 #[.int .i64 97]:=by have:=Bk.new ((x.alloc (.cells #[.int .i64 111] 3)).alloc (.cells #[.int .i64 114,.int .i64 110] 3)) 3 #[.int .i64 97];simpa using this
  have k3:Bk ((((x.alloc (.cells #[.int .i64 111] 3)).alloc (.cells #[.int .i64 114,.int .i64 110] 3)).alloc (.cells #[.int .i64 97] 3)).alloc (.cells #[.int .i64 97] 3)) (x.heap.size+1+1+1) 3 #[.int .i64 97]:=by have:=Bk.new (((x.alloc (.cells #[.int .i64 111] 3)).alloc (.cells #[.int .i64 114,.int .i64 110] 3)).alloc (.cells #[.int .i64 97] 3)) 3 #[.int .i64 97];simpa using this
  have k4:Bk (((((x.alloc (.cells #[.int .i64 111] 3)).alloc (.cells #[.int .i64 114,.int .i64 110] 3)).alloc (.cells #[.int .i64 97] 3)).alloc (.cells #[.int .i64 97] 3)).alloc (.cells #[.int .i64 111,.int .i64 803] 3)) (x.heap.size+1+1+1+1) 3 #[.int .i64 111,.int .i64 803]:=by have:=Bk.new ((((x.alloc (.cells #[.int .i64 111] 3)).alloc (.cells #[.int .i64 114,.int .i64 110] 3)).alloc (.cells #[.int .i64 97] 3)).alloc (.cells #[.int .i64 97] 3)) 3 #[.int .i64 111,.int .i64 803];simpa using this
  have k5:Bk ((((((x.alloc (.cells #[.int .i64 111] 3)).alloc (.cells #[.int .i64 114,.int .i64 110] 3)).alloc (.cells #[.int .i64 97] 3)).alloc (.cells #[.int .i64 97] 3)).alloc (.cells #[.int .i64 111,.int .i64 803] 3)).alloc (.cells #[.int .i64 48,.slice (some ⟨x.heap.size,0,none⟩) 1 1,.int .i64 109,.slice (some ⟨x.heap.size+1,0,none⟩) 2 2,.int .i64 945,.slice (some ⟨x.heap.size+1+1,0,none⟩) 1 1,.int .i64 1072,.slice (some ⟨x.heap.size+1+1+1,0,none⟩) 1 1,.int .i64 1632,.slice (some ⟨x.heap.size+1+1+1+1,0,none⟩) 2 2] 89)) (x.heap.size+1+1+1+1+1) 89 #[.int .i64 48,.slice (some ⟨x.heap.size,0,none⟩) 1 1,.int .i64 109,.slice (some ⟨x.heap.size+1,0,none⟩) 2 2,.int .i64 945,.slice (some ⟨x.heap.size+1+1,0,none⟩) 1 1,.int .i64 1072,.slice (some ⟨x.heap.size+1+1+1,0,none⟩) 1 1,.int .i64 1632,.slice (some ⟨x.heap.size+1+1+1+1,0,none⟩) 2 2]:=by have:=Bk.new (((((x.alloc (.cells #[.int .i64 111] 3)).alloc (.cells #[.int .i64 114,.int .i64 110] 3)).alloc (.cells #[.int .i64 97] 3)).alloc (.cells #[.int .i64 97] 3)).alloc (.cells #[.int .i64 111,.int .i64 803] 3)) 89 #[.int .i64 48,.slice (some ⟨x.heap.size,0,none⟩) 1 1,.int .i64 109,.slice (some ⟨x.heap.size+1,0,none⟩) 2 2,.int .i64 945,.slice (some ⟨x.heap.size+1+1,0,none⟩) 1 1,.int .i64 1072,.slice (some ⟨x.heap.size+1+1+1,0,none⟩) 1 1,.int .i64 1632,.slice (some ⟨x.heap.size+1+1+1+1,0,none⟩) 2 2];simpa using this
  refine⟨wB.1.below b5,k5,by omega,fun hm=>by have:=(wB.1.mp.oI _ hm).2;omega,fun i hi=>⟨by show x.heap.size<=x.heap.size+i;omega,?_⟩⟩;match i,hi with
  | 0,_=>exact ((((k0.alloc _).alloc _).alloc _).alloc _).alloc _
  | 1,_=>exact (((k1.alloc _).alloc _).alloc _).alloc _
  | 2,_=>exact ((k2.alloc _).alloc _).alloc _
  | 3,_=>exact (k3.alloc _).alloc _
  | 4,_=>exact k4.alloc _
 have yY:=jP hpt;clear hpt wB;generalize (((((x.alloc (.cells #[.int .i64 111] 3)).alloc (.cells #[.int .i64 114,.int .i64 110] 3)).alloc (.cells #[.int .i64 97] 3)).alloc (.cells #[.int .i64 97] 3)).alloc (.cells #[.int .i64 111,.int .i64 803] 3)).alloc (.cells #[.int .i64 48,.slice (some ⟨x.heap.size,0,none⟩) 1 1,.int .i64 109,.slice (some ⟨x.heap.size+1,0,none⟩) 2 2,.int .i64 945,.slice (some ⟨x.heap.size+1+1,0,none⟩) 1 1,.int .i64 1072,.slice (some ⟨x.heap.size+1+1+1,0,none⟩) 1 1,.int .i64 1632,.slice (some ⟨x.heap.size+1+1+1+1,0,none⟩) 2 2] 89)=y0 at *;obtain⟨rb,hrb⟩:∃ z,z=x.heap.size+1+1+1+1+1:=⟨_,rfl⟩;rw[<-hrb] at yY ⊢;clear hrb;go_loopw [18] (fun vi wr=>∃ (k:Nat) (S:Nat->Sl) (p:List Gm.Mp) (ts:List Nat),k<=5/\vi=.int .i64 k/\Pt x g gt rb (fun i=>x.heap.size+i) T bs S p ts wr/\zo k T.jW p/\∀ i,i≠11->S i=S0 i) (fun vi _=>5-(intOf vi).toNat)
 case atStart=>exact⟨0,S0,[],[],by omega,rfl,yY.1,zo.start _,fun _ _=>rfl⟩
 case round=>
  obtain⟨k,S,p,ts,hk,rfl,hp,hpp,hS⟩:=hrel;have HP:=jP hp;have Dx:=jP hpp;have HS:=jP hS;clear hp hpp hS yY;by_cases hlt:k<5
  ·obtain⟨m,n,q,hm,c0,c1,cq,htl⟩:∃ (m:Gm.Mp) (n:Nat) (q:Int),Gm.uS[k]?=some m/\(PrC (fun i=>x.heap.size+i))[k*2]?=some (.int .i64 m.f)/\(PrC (fun i=>x.heap.size+i))[k*2+1]?=some (.slice (some ⟨x.heap.size+k,0,none⟩) (n+1) (n+1))/\m.to[n]?=some q/\m.to.length=n+1:=by
    match k,hlt with
    | 0,_=>exact⟨⟨48,[111]⟩,0,111,rfl,rfl,rfl,rfl,rfl⟩
    | 1,_=>exact⟨⟨109,[114,110]⟩,1,110,rfl,rfl,rfl,rfl,rfl⟩
    | 2,_=>exact⟨⟨945,[97]⟩,0,97,rfl,rfl,rfl,rfl,rfl⟩
    | 3,_=>exact⟨⟨1072,[97]⟩,0,97,rfl,rfl,rfl,rfl,rfl⟩
    | 4,_=>exact⟨⟨1632,[111,803]⟩,1,803,rfl,rfl,rfl,rfl,rfl⟩
   have x0:wr.cell? ⟨rb,k*2,none⟩=some (.int .i64 m.f):=(HP.1.OV.cell _).trans c0;have x1:wr.cell? ⟨rb,k*2+1,none⟩=some (.slice (some ⟨x.heap.size+k,0,none⟩) (n+1) (n+1)):=(HP.1.OV.cell _).trans c1;have Vy:=jP hm;have Rx:=jP htl;have hto:(Gm.uS.getD k ⟨0,[]⟩).to=m.to:=by rw[aY,hm];rfl
   have uo:=jP (show Bk wr (x.heap.size+k) 3 (ints m.to).toArray by rw[<-hto];exact (HP.1.bi k hlt).2);have HCQ:=jP cq;have HQL:=jP (show m.to.getLast?=some q by rw[iV,htl];exact cq);have BA:=jP (show n+1<=2 by rw[<-htl];exact (show ∀ m∈Gm.uS,m.to.length<=2 by decide) m (ay hm));clear hm c0 c1 cq htl hto;go_upto_region 3 with (fail)
   have hal:=(ai wr.heap.size wr).alloc (ag _) (.cells #[.int .i64 m.f,.slice (some ⟨x.heap.size+k,0,none⟩) (n+1) (n+1)] 89);obtain⟨zb,hzb⟩:∃ z,z=wr.heap.size:=⟨_,rfl⟩;have HW:=jP (show Pw x g gt rb (fun i=>x.heap.size+i) T bs S p ts zb (x.heap.size+k) n m.f m.to (wr.alloc (.cells #[.int .i64 m.f,.slice (some ⟨x.heap.size+k,0,none⟩) (n+1) (n+1)] 89)) from
    ⟨HP.1.below hal,by rw[hzb];exact Bk.new wr _ _,by rw[hzb];exact HP.1.mc.ot.size,fun hm=>by have:=(HP.1.mc.mp.oI _ hm).2;omega,uo.1.below hal uo.1.lt,by omega⟩)
   rw[<-hzb];clear hal x0 x1 HP uo hzb;generalize wr.alloc (.cells #[.int .i64 m.f,.slice (some ⟨x.heap.size+k,0,none⟩) (n+1) (n+1)] 89)=w2 at *;go_cut [46,5,18] from 18 to 57 (fun v46 v5 v18 wx=>v5=.pointer (some ⟨zb,0,none⟩)/\v18=.int .i64 (k:Int)/\∃ b:Bool,v46=.bool b/\(b=false->(Gm.val T.jW m.f==1)=false/\(Gm.val T.jW q==1)=false)/\Pw x g gt rb (fun i=>x.heap.size+i) T bs S p ts zb (x.heap.size+k) n m.f m.to wx)
   case first=>
    refine aI (S:=Pb zb gt (x.heap.size+k) n m.f q S) (by kernel_rfl) ((HW.1.below ((ai _ _).drew)).pb HCQ.1) (fun _=>?_);have HW3:=jP (HW.1.below ((ai _ _).drew));have mg:=HW3.1.pb HCQ.1;clear HW;generalize w2.drew=w3 at *;refine tk 0 ?_;refine rc 1 fun K hK=>?_;go_simp
    refine (lK HW3.1.pt.mc.src 3 (by omega) (by omega)).mono ?_;rintro e w4 ⟨r,rfl,_,_,hs,ho⟩;have sK:=jP (HW3.1.turn hs ho);have zK:=sK.1.pb HCQ.1;refine rk hK zK fun _=>?_;clear hK K hs ho HW3 mg;by_cases hr:r=0
    ·subst hr;refine tk 2 ?_;refine tk 3 ?_;refine tu 4 ?_;refine tu 5 ?_;refine tu 6 ?_;refine tu 7 ?_;refine tu 8 ?_;refine tu 9 ?_;refine tk 10 ?_;refine tk 11 ?_;refine tu 12 ?_;refine tu 13 ?_;refine tu 14 ?_;refine tu 15 ?_;refine tu 16 ?_;refine tu 17 ?_;refine tu 18 ?_;refine tu 19 ?_;refine tu 20 ?_;refine tu 21 ?_;refine tu 22 ?_;refine tu 23 ?_;refine tk 24 ?_;refine aJ (by kernel_rfl) ?_ _;go_wp2_with fail
     go_meet
     case rel=>exact⟨rfl,rfl,true,rfl,by simp,sK.1⟩
    ·have hrb:(r==0)=false:=by simpa using hr
     clear hr;refine tk 2 ?_;refine tk 3 ?_;refine tk 4 ?_;refine tk 5 ?_;refine tk 6 ?_;refine tk 7 ?_;refine tk 8 ?_;obtain⟨b1,hb1⟩:∃ b:Bool,(Gm.val T.jW m.f==1)=b:=⟨_,rfl⟩;have Hf:Rd w4 w4.heap.size 3 (S 6).A (S 6).n (spans T.jW):=sK.1.pt.mc.tb.rd (k:=6) (by omega) (by simp);have Zp:(S 6).n<=100000:=by have:=qO Hf;have:=Vz.1;omega
     refine rc 9 fun K hK=>?_;go_simp
     refine (OW (V:=wG S) (l:=T.jW) Hf (ag _) Zp m.f).mono ?_;rw[hb1];rintro e w5 ⟨rfl,hb⟩;have uj:=jP (sK.1.below hb);have uN:=uj.1.pb HCQ.1;refine rk hK uN fun _=>?_;clear hK K hb sK zK Hf;have HB1:=jP hb1;clear hb1;cases b1
     ·refine tk 10 ?_;refine tk 11 ?_;have ao1:IntKind.i64.wrap (n:Int)=(n:Int):=aW _ (by have:=BA.1;omega);have hnl:(n:Int)<(n:Int)+1:=by omega
      refine tk 12 ?_;refine tk 13 ?_;refine tk 14 ?_;refine tk 15 ?_;refine tk 16 ?_;refine tk 17 ?_;refine tk 18 ?_;refine tk 19 ?_;refine tk 20 ?_;refine tk 21 ?_;refine tk 22 ?_;obtain⟨b2,hb2⟩:∃ b:Bool,(Gm.val T.jW q==1)=b:=⟨_,rfl⟩;have Hf:Rd w5 w5.heap.size 3 (S 6).A (S 6).n (spans T.jW):=uj.1.pt.mc.tb.rd (k:=6) (by omega) (by simp);refine rc 23 fun K hK=>?_;go_simp
      refine (OW (V:=wG S) (l:=T.jW) Hf (ag _) Zp q).mono ?_;rw[hb2];rintro e w6 ⟨rfl,hb⟩;have zJ:=jP (uj.1.below hb);have o6:=zJ.1.pb HCQ.1;refine rk hK o6 fun _=>?_;clear hK K hb uj uN Hf;refine tk 24 ?_;refine aJ (by kernel_rfl) ?_ _;have HB2:=jP hb2;clear hb2;cases b2
      ·go_wp2_with fail
       go_meet
       case rel=>exact⟨rfl,rfl,false,rfl,fun _=>⟨HB1.1,HB2.1⟩,zJ.1⟩
      ·go_wp2_with fail
       go_meet
       case rel=>exact⟨rfl,rfl,true,rfl,by simp,zJ.1⟩
     ·refine tk 10 ?_;refine tk 11 ?_;refine tu 12 ?_;refine tu 13 ?_;refine tu 14 ?_;refine tu 15 ?_;refine tu 16 ?_;refine tu 17 ?_;refine tu 18 ?_;refine tu 19 ?_;refine tu 20 ?_;refine tu 21 ?_;refine tu 22 ?_;refine tu 23 ?_;refine tk 24 ?_;refine aJ (by kernel_rfl) ?_ _;go_wp2_with fail
      go_meet
      case rel=>exact⟨rfl,rfl,true,rfl,by simp,uj.1⟩
   case rest=>
    obtain⟨rfl,rfl,b46,rfl,Xe,hw⟩:=hcut;have HW:=jP hw;have XK:=jP Xe;clear hw Xe;cases b46
    ·go_upto_region 4 with (fail)
     refine aI (S:=Pm zb (x.heap.size+k) n m.f) (by kernel_rfl) ((HW.1.below ((ai _ _).drew)).mb) (fun _=>?_);have HD5:=jP (HW.1.below ((ai _ _).drew));clear HW;have uN:=HD5.1.mb;generalize wc.drew=w5 at *;refine tk 0 ?_;refine tk 1 ?_;refine tk 2 ?_;refine tk 3 ?_;refine tk 5 ?_;refine Au 4 6 (fun K hK=>?_) (fun K hK=>?_)
     ·obtain⟨hcl,hcf⟩:=HD5.1.pt.mc.tb.cell (k:=11) (by omega);go_simp
      refine rk hK uN fun hHeld=>?_;clear hK K hcl hcf;refine rc 6 fun K hK=>?_;go_simp
      have hal:=(ai w5.heap.size w5).alloc (ag _) (.cells #[.int .i64 m.f,.slice (some ⟨x.heap.size+k,0,none⟩) (n+1) (n+1)] 89);have nG:=jP (Bk.new w5 89 #[.int .i64 m.f,.slice (some ⟨x.heap.size+k,0,none⟩) (n+1) (n+1)]);have HD6:=jP (HD5.1.below hal);have o6:=HD6.1.mb;refine rk hK o6 fun hHeld=>?_;clear hK K;obtain⟨z,hz⟩:∃ z,z=w5.heap.size:=⟨_,rfl⟩;rw[<-hz] at nG ⊢;clear hal;generalize w5.alloc (.cells #[.int .i64 m.f,.slice (some ⟨x.heap.size+k,0,none⟩) (n+1) (n+1)] 89)=w6 at *;clear hz;obtain⟨cs,m1,m2,m3⟩:=HD6.1.pt.mc.mp.row;have uI:Rd w6 w6.heap.size 2 (some ⟨z,0,none⟩) 1 [.int .i64 m.f,.slice (some ⟨x.heap.size+k,0,none⟩) (n+1) (n+1)]:=⟨rfl,fun _=>⟨z,0,rfl,nG.1.lt,fun i u hu=>by rw[nG.1.cell,bf];simpa using hu⟩⟩;obtain⟨A8,c8,w8,hrun,oZ,nN,AZ⟩:=xW (w:=w6) 24 (base:=x.heap.size) m1 uI (c:=1) (by intro u hu;simp at hu;rcases hu with rfl | rfl<;>rfl) (by have:=Dx.1.len;omega) HD6.1.pt.mc.ot.size;refine rc 7 fun K hK=>?_;refine a_ _ _ _ _ _ rfl (.slice (S 11).A (S 11).n (S 11).c) (.slice (some ⟨z,0,none⟩) 1 1) rfl rfl _ _ hrun ?_;have qM:=jP (show Bk w8 zb 89 #[.int .i64 m.f,.slice (some ⟨x.heap.size+k,0,none⟩) (n+1) (n+1)] from HD6.1.bx.jS (kR nN) HD6.1.zn);have uM:Pm zb (x.heap.size+k) n m.f w8:=⟨qM.1.cell 0,qM.1.cell 1⟩;refine rk hK uM fun hHeld=>?_;clear hK K;refine tk 8 ?_;refine tk 9 ?_;refine rc 10 fun K hK=>?_;have vO:=jP (HD6.1.pt.put (m:=m) (c3:=n+1) hlt Vy.1 m1 m2 m3 nN (by rw[Rx.1];exact oZ) AZ);have qL:=jP (show Bk w8 gt 26 (kK (wG S)) from HD6.1.pt.mc.tb.bx.jS (kR nN) (fun hm=>by
       obtain⟨cs,hb⟩:=kV m1 gt hm;exact Bk.ne hb HD6.1.pt.mc.tb.bx (by decide) rfl))
      have hcz:=qL.1.cell 11;have hfz:=qL.1.frozen 11;have hzn:=HD6.1.pt.kl;have hzl:=HD6.1.zl;go_simp
      refine rk hK (uM.far (p:=⟨gt,11,none⟩) (by show zb≠gt;omega) _) fun hHeld=>?_;clear hK K;refine aJ (by kernel_rfl) ?_ _;go_wp2_with fail
      go_roundw
      case rel=>exact⟨k+1,_,_,_,by omega,by go_num,vO.1,Dx.1.add Vy.1 (XK.1 rfl).1 (fun q' hq'=>by rw[HQL.1] at hq';injection hq' with hq';rw[<-hq'];exact (XK.1 rfl).2),fun i hi=>by unfold nZ;rw[ah hi];exact HS.1 i hi⟩
      case measure=>simp only[intOf]<;>omega
     ·go_simp
      have hal:=(ai w5.heap.size w5).alloc (ag _) (.cells #[.int .i64 m.f,.slice (some ⟨x.heap.size+k,0,none⟩) (n+1) (n+1)] 89);have nG:=jP (Bk.new w5 89 #[.int .i64 m.f,.slice (some ⟨x.heap.size+k,0,none⟩) (n+1) (n+1)]);have HD6:=jP (HD5.1.below hal);have o6:=HD6.1.mb;refine rk hK o6 fun hHeld=>?_;clear hK K;obtain⟨z,hz⟩:∃ z,z=w5.heap.size:=⟨_,rfl⟩;rw[<-hz] at nG ⊢;clear hal;generalize w5.alloc (.cells #[.int .i64 m.f,.slice (some ⟨x.heap.size+k,0,none⟩) (n+1) (n+1)] 89)=w6 at *;clear hz;refine rc 4 fun K hK=>?_;obtain⟨hcl,hcf⟩:=HD6.1.pt.mc.tb.cell (k:=11) (by omega);go_simp
      refine rk hK o6 fun hHeld=>?_;clear hK K hcl hcf;obtain⟨cs,m1,m2,m3⟩:=HD6.1.pt.mc.mp.row;have uI:Rd w6 w6.heap.size 2 (some ⟨z,0,none⟩) 1 [.int .i64 m.f,.slice (some ⟨x.heap.size+k,0,none⟩) (n+1) (n+1)]:=⟨rfl,fun _=>⟨z,0,rfl,nG.1.lt,fun i u hu=>by rw[nG.1.cell,bf];simpa using hu⟩⟩;obtain⟨A8,c8,w8,hrun,oZ,nN,AZ⟩:=xW (w:=w6) 24 (base:=x.heap.size) m1 uI (c:=1) (by intro u hu;simp at hu;rcases hu with rfl | rfl<;>rfl) (by have:=Dx.1.len;omega) HD6.1.pt.mc.ot.size;refine rc 7 fun K hK=>?_;refine a_ _ _ _ _ _ rfl (.slice (S 11).A (S 11).n (S 11).c) (.slice (some ⟨z,0,none⟩) 1 1) rfl rfl _ _ hrun ?_;have qM:=jP (show Bk w8 zb 89 #[.int .i64 m.f,.slice (some ⟨x.heap.size+k,0,none⟩) (n+1) (n+1)] from HD6.1.bx.jS (kR nN) HD6.1.zn);have uM:Pm zb (x.heap.size+k) n m.f w8:=⟨qM.1.cell 0,qM.1.cell 1⟩;refine rk hK uM fun hHeld=>?_;clear hK K;refine tk 8 ?_;refine tk 9 ?_;refine rc 10 fun K hK=>?_;have vO:=jP (HD6.1.pt.put (m:=m) (c3:=n+1) hlt Vy.1 m1 m2 m3 nN (by rw[Rx.1];exact oZ) AZ);have qL:=jP (show Bk w8 gt 26 (kK (wG S)) from HD6.1.pt.mc.tb.bx.jS (kR nN) (fun hm=>by
       obtain⟨cs,hb⟩:=kV m1 gt hm;exact Bk.ne hb HD6.1.pt.mc.tb.bx (by decide) rfl))
      have hcz:=qL.1.cell 11;have hfz:=qL.1.frozen 11;have hzn:=HD6.1.pt.kl;have hzl:=HD6.1.zl;go_simp
      refine rk hK (uM.far (p:=⟨gt,11,none⟩) (by show zb≠gt;omega) _) fun hHeld=>?_;clear hK K;refine aJ (by kernel_rfl) ?_ _;go_wp2_with fail
      go_roundw
      case rel=>exact⟨k+1,_,_,_,by omega,by go_num,vO.1,Dx.1.add Vy.1 (XK.1 rfl).1 (fun q' hq'=>by rw[HQL.1] at hq';injection hq' with hq';rw[<-hq'];exact (XK.1 rfl).2),fun i hi=>by unfold nZ;rw[ah hi];exact HS.1 i hi⟩
      case measure=>simp only[intOf]<;>omega
    ·go_wp2_with fail
     go_roundw
     case rel=>exact⟨k+1,S,p,ts,by omega,by go_num,HW.1.pt,Dx.1.skip,HS.1⟩
     case measure=>simp only[intOf]<;>omega
  ·obtain rfl:k=5:=by omega
   go_wp2_with fail
   go_end0
   refine⟨rfl,S,p,bs++(jT (S 11).A++ts),?_,?_,HP.1.mc.src,HP.1.mc.ot,Dx.1,HS.1⟩
   ·have hk:=HP.1.kl;exact HP.1.mc.tb.shut (T':=T.sQ 11 p) (fun j hj hne z B h=>Gu T 11 (by omega) p j hne hj z B (S j) h) (uD.YO (T:=T.sQ 11 p) (k:=11) HP.1.mc.mp (by omega) rfl) (fun hm=>by
     rcases aO.1 hm with e | e
     ·have:=(HP.1.mc.mp.oI _ e).1;omega
     ·have:=(HP.1.mc.mp.ty _ e).1;omega)
   ·intro q hq;rcases aO.1 hq with e | e
    ·exact .inl e
    ·rcases aO.1 e with e | e
     ·exact .inr (HP.1.mc.mp.oI _ e).1
     ·exact .inr (HP.1.mc.mp.ty _ e).1
theorem oC.ext {gt:Nat}{S:Nat->Sl}{T:Gm.Tab}{bs:List Nat}{y:World}(h:oC [] gt S T bs y)(a b f:Int) :
  oC [] gt (nZ S 7 ⟨some ⟨y.heap.size+1,0,none⟩,1,1⟩) (T.sQ 7 [⟨f,[a,b]⟩]) (bs++(jT (some ⟨y.heap.size+1,0,none⟩)++[y.heap.size])) (((y.alloc (.cells #[.int .i64 a,.int .i64 b] 3)).alloc (.cells #[.int .i64 f,.slice (some ⟨y.heap.size,0,none⟩) 2 2] 89)).setCell ⟨gt,7,none⟩ (.slice (some ⟨y.heap.size+1,0,none⟩) 1 1)):=by
 have hgt:=h.bx.lt;have hb:=mP y (.cells #[.int .i64 a,.int .i64 b] 3) (.cells #[.int .i64 f,.slice (some ⟨y.heap.size,0,none⟩) 2 2] 89);have hk1:Bk (y.alloc (.cells #[.int .i64 a,.int .i64 b] 3)) y.heap.size 3 #[.int .i64 a,.int .i64 b]:=Bk.new _ _ _;have ahs:=hk1.alloc (.cells #[.int .i64 f,.slice (some ⟨y.heap.size,0,none⟩) 2 2] 89);have hk2:=l_ y (.cells #[.int .i64 a,.int .i64 b] 3) 89 #[.int .i64 f,.slice (some ⟨y.heap.size,0,none⟩) 2 2];have hm:uK ((y.alloc (.cells #[.int .i64 a,.int .i64 b] 3)).alloc (.cells #[.int .i64 f,.slice (some ⟨y.heap.size,0,none⟩) 2 2] 89)) y.heap.size ⟨some ⟨y.heap.size+1,0,none⟩,1,1⟩ [⟨f,[a,b]⟩] [y.heap.size]:=by
  refine⟨⟨[.int .i64 f,.slice (some ⟨y.heap.size,0,none⟩) 2 2],YF (cap:=1) (by omega) hk2 (ag _) (by unfold maxLen;omega) rfl rfl rfl,rfl,fun j m hj=>?_⟩,fun q hq=>?_⟩
  ·match j,hj with
   | 0,hj=>
    injection hj with hj
    subst hj;exact⟨rfl,_,_,rfl,B_.bk (kJ:=[a,b]) ahs⟩
   | j+1,hj=>simp at hj
  ·rw[aB.1 hq];exact⟨ag _,_,ahs⟩
 have h2:=((h.below hb).open_ 7).write (k:=7) (by simp) (by omega) ⟨some ⟨y.heap.size+1,0,none⟩,1,1⟩;have hst:jR [gt] ((y.alloc (.cells #[.int .i64 a,.int .i64 b] 3)).alloc (.cells #[.int .i64 f,.slice (some ⟨y.heap.size,0,none⟩) 2 2] 89)) (((y.alloc (.cells #[.int .i64 a,.int .i64 b] 3)).alloc (.cells #[.int .i64 f,.slice (some ⟨y.heap.size,0,none⟩) 2 2] 89)).setCell ⟨gt,7,none⟩ (.slice (some ⟨y.heap.size+1,0,none⟩) 1 1)):=(jR.refl [gt] _).setCell (p:=⟨gt,7,none⟩) (.inl (by simp)) _;have hm2:=hm.jS hst (fun q hq=>by rw[aB.1 hq];exact hgt);exact h2.shut (T':=T.sQ 7 [⟨f,[a,b]⟩]) (fun j hj hne z B hz=>Gu T 7 (by omega) _ j hne hj z B _ hz) (uD.YO (T:=T.sQ 7 [⟨f,[a,b]⟩]) (k:=7) hm2 (by omega) rfl) (fun hq=>by
  simp[jT] at hq;omega)
theorem oC.all {gt:Nat}{S:Nat->Sl}{T:Gm.Tab}{bs:List Nat}{y:World}(h:oC [] gt S T bs y)(hT:Gm.Good T)(z:World)(hz:∀ g∈bs,z.heap[g]?=y.heap[g]?)(hs:y.heap.size<=z.heap.size)(hb:xg z z.heap.size):j_ z z.heap.size (wG S) T:=by
 have hr:∀ i,i<12->qJ T i z z.heap.size (S i):=fun i hi=>(h.kn i hi (by simp)).2 z z.heap.size hz (fun g hg=>aG (h.lt g hg) hs);exact⟨hr 0 (by omega),hr 1 (by omega),hr 2 (by omega),hr 3 (by omega),hr 4 (by omega),hr 5 (by omega),hr 6 (by omega),hr 7 (by omega),hr 8 (by omega),hr 9 (by omega),hr 11 (by omega),hr 10 (by omega),hb,hT⟩
theorem lZ.WQ (x:Nm)(i:Int):(⟨1,i,x.a,0+9⟩:Rc).live 0=true:=by simp[Rc.live]
theorem Jd:Rq.ttl 1 9=true:=by decide
theorem EG (nm:List UInt8)(h:nm.length<=1024):(Rq.qV 1 9 [nm]).length<=4096:=by
 have hq:=(Rq.Yy nm).2.2;have e:Rq.qV 1 9 [nm]=Rq.wd 1++32::(Lib.itoa 9++32::Rq.quote nm):=by
  show Rq.jn (Rq.wd 1::((if Rq.oP 1 then [Lib.itoa 9] else [])++[Rq.quote nm]))=_;rw[show Rq.oP 1=true by decide,aj rfl];rfl
 have hw:(Rq.wd 1).length=4:=rfl;have hi:(Lib.itoa 9).length<=4:=by
  unfold Lib.itoa;rw[ah (by omega)];exact QJ 4 (9:Int).toNat (by omega) (by omega)
 rw[e];simp only[aA,dX,hw];omega
theorem Dh (nm:List UInt8)(h:nm.length<=1024):Rq.parse (lst (str (Rq.qV 1 9 [nm])))=⟨1,9,[nm],0⟩:=by
 rw[oh];exact round 1 9 [nm] (by omega) (by omega) Jd (by simp) (EG nm h)
theorem SN {B:Nat}{I:nY}{L:List Cl}{j:Nat}{k:Cl}{xs:List Opn}{x y:Nm}{nm:List UInt8}{st:Int}(hd:VG L)(hL:L.length<=64)(hxs:xs.length<=100)(hnm:nm.length<=1024)(hmk:Gm.make I.T [str nm]=([(y,0)],Rs.fine))
  (hk:y.k.size<=1000000) (ha0:0<y.a.size) (ha1:y.a.size<=63) (hst:0<=st/\st<=1000000) :
  ∃ (kP:Rs) (m:Int) (r:lZ) (cnt:Int),kP.err=(if y.k=x.k then 24 else 0)/\(7<=m/\m<=8)/\r.ok/\r.U<=2/\r.get x=⟨1,0,x.a,0+9⟩/\(0<=cnt/\cnt<=2) /\
   ∀ l,Does B (I.wk l) L j k xs (str (Rq.qV 1 9 [nm])) 3 4 0 (0+1) cnt y (lZ.z.put x ⟨1,0,x.a,0+9⟩) r kP m st:=by
 have hok:=lZ.O9 lZ.VH (by decide) x ⟨1,0,x.a,0+9⟩;have hU:(lZ.z.put x ⟨1,0,x.a,0+9⟩).U<=1:=by have:=lZ.adF (r:=lZ.z) x ⟨1,0,x.a,0+9⟩;simpa[lZ.z] using this
 have hget:∀ z:Nm,(lZ.z.put x ⟨1,0,x.a,0+9⟩).get z=if z.k=x.k then ⟨1,0,x.a,0+9⟩ else Rc.none:=fun z=>by rw[lZ.get_put lZ.VH (by decide),lZ.VI]
 by_cases e:y.k=x.k
 ·refine⟨_,7,lZ.z.put x ⟨1,0,x.a,0+9⟩,0+1,?_,by omega,hok,by omega,by rw[hget,aj rfl],by omega,fun l=>Fp (r0:=⟨1,0,x.a,0+9⟩) hd hL hxs (Dh nm hnm) hok (by omega) (by rw[lT];omega) hmk hk ha0 ha1 hst (by rw[hget,aj e]) (lZ.WQ x 0) (by omega) (by omega) (.inr rfl) (by omega) (by omega)⟩;rw[aj e]
 ·refine⟨_,8,(lZ.z.put x ⟨1,0,x.a,0+9⟩).put y ⟨1,(j:Int),y.a,0+9⟩,0+1+1,?_,by omega,lZ.O9 hok (by omega) _ _,by have:=lZ.adF (r:=lZ.z.put x ⟨1,0,x.a,0+9⟩) y ⟨1,(j:Int),y.a,0+9⟩;omega,?_,by omega,
   fun l=>Fj (gr:=1) (r0:=Rc.none) hd hL hxs (Dh nm hnm) hok (by omega) (by rw[lT];omega) hmk hk ha0 ha1 hst (by rw[hget,ah e]) (by simp[Rc.live,Rc.none]) (by omega) (by omega) rfl (.inl ⟨rfl,by omega⟩) (.inl rfl) (by omega) (by omega)⟩
  ·rw[ah e]
  ·rw[lZ.get_put hok (by omega),ah (fun h=>e h.symm),hget,aj rfl]
def Rh:Prop:=∀ (w:World) (A:Option Addr) (n c B:Nat) (xs:List Int),Rd w B 1 A n (ints xs)->B<=w.heap.size->n<=maxLen->xg w w.heap.size ->
 Calls Tryz.prog 6 #[.slice A n c] w fun e w'=>∃ V T,e=.returned (kF V)/\j_ w' w'.heap.size V T/\Below w.heap.size w w'
theorem KH (ais:Rh)(a0:Option Addr)(c0:Nat)(x0:List Int)(a1:Option Addr)(c1:Nat)(x1:List Int)(a2:Option Addr)(c2:Nat)(x2:List Int)(a3:Int)(w:World)(r0:Rd w w.heap.size 1 a0 x0.length (ints x0))(m0:x0.length<=maxLen)(r1:Rd w w.heap.size 1 a1 x1.length (ints x1))(m1:x1.length<=maxLen)
  (r2:Rd w w.heap.size 1 a2 x2.length (ints x2)) (m2:x2.length<=maxLen) (ht:Tb w) (hblk:xg w w.heap.size) :
  Calls Tryz.prog 3 #[.slice a0 x0.length c0,.slice a1 x1.length c1,.slice a2 x2.length c2,.int .i64 a3] w fun e w'=>e=.returned (.bool true)/\Below w.heap.size w w':=by
 have p0:=Kp.KX a3 3 (by omega);have p1:=Kp.KY a3 3 (by omega);have P0:=jP (pick_any a3 3 (by omega) (by omega));generalize Kp.pick a3 3=q0 at *;obtain⟨j0,rfl⟩:∃ j:Nat,q0=(j:Int):=⟨q0.toNat,by omega⟩;have HJ:=jP (show j0<3 by omega);have Ru:=jP ht;have pV:=jP hblk;have HTC:=jP (ais w a2 x2.length c2 w.heap.size x2 r2 (ag _) m2 hblk);have Vs:=jP (fun (W:World) (hb:Below w.heap.size w W)=>Um (c:=c0) (r0.below hb) hb.size m0);have HRB:=jP (fun (W:World) (hb:Below w.heap.size w W)=>Um (c:=c1) (r1.below hb) hb.size m1);clear r0 m0 r1 m1 r2 m2 ht hblk ais;generalize x0.length=n0 at *;generalize x1.length=n1 at *;generalize x2.length=n2 at *;clear x0 x1 x2;go_enter Tryz.func3,Tryz.ntmps3
 go_wp2_with fail
 refine HTC.1.mono ?_;rintro e w1 ⟨V,T,rfl,htab,hb1⟩;have HT1:=jP htab;have HB1:=jP hb1;clear htab hb1 HTC;go_upto_region 2 with (fail)
 have acv:Below w1.heap.size w1 (w1.alloc (.cells (kK V) 26)):=(ai _ _).alloc (ag _) _;obtain⟨zx,hzx⟩:∃ z,z=w1.heap.size:=⟨_,rfl⟩;have lV:=jP (show Bk (w1.alloc (.cells (kK V) 26)) zx 26 (kK V) by rw[hzx];exact Bk.new w1 _ _);have HT2:=jP (HT1.1.below acv);have HB2:=jP (HB1.1.trans (acv.mono HB1.1.size));have HZX:=jP (show w.heap.size<=zx by rw[hzx];exact HB1.1.size);have Rn:=jP (show w1.heap.size<=zx by omega);rw[<-hzx] at *;clear acv HT1 HB1;generalize w1.alloc (.cells (kK V) 26)=w2 at *;go_wp2_with fail
 refine (Vs.1 _ HB2.1).mono ?_;rintro e w3 ⟨s2,rfl,hsz,hb⟩;obtain⟨na,rfl⟩:∃ l,s2=str l:=⟨lst s2,(uF s2).symm⟩;have RP:=jP (show na.length<=100 from hsz);have HT3:=jP (HT2.1.below (hb.mono (by have:=lV.1.lt;have:=Rn.1;omega)));have lM:=jP (lV.1.below hb lV.1.lt);have HB3:=jP (HB2.1.trans (hb.mono HB2.1.size));clear hsz hb HT2 lV HB2;go_wp2_with fail
 refine (HRB.1 _ HB3.1).mono ?_;rintro e w4 ⟨s3,rfl,hsz,hb⟩;obtain⟨nb,rfl⟩:∃ l,s3=str l:=⟨lst s3,(uF s3).symm⟩;have XC:=jP (show nb.length<=100 from hsz);have HT4:=jP (HT3.1.below (hb.mono (by have:=lM.1.lt;have:=Rn.1;omega)));have nM:=jP (lM.1.below hb lM.1.lt);have HB4:=jP (HB3.1.trans (hb.mono HB3.1.size));clear hsz hb HT3 lM HB3;obtain⟨y0,y1,y2,y3,y4,y5,y6,y7,y8,y9,XN,XM⟩:=rD nM.1;obtain⟨⟨p,pe⟩,hc⟩:∃ z,Gm.canon T (lst (str na))=z:=⟨_,rfl⟩;have adr:=jP hc;have hcn:=FC HT4.1 (by have:=nM.1.lt;have:=Rn.1;omega) (str na) (by rw[lT];have:=RP.1;omega);rw[hc] at hcn;simp only[Nm.arr] at hcn;have DD:=jP hcn;clear hc hcn;go_wp2_with fail
 refine DD.1.mono ?_;rintro e w5 ⟨rfl,hb⟩;clear y0 y1 y2 y3 y4 y5 y6 y7 y8 y9 XN XM DD;have hal:Below w5.heap.size w5 (w5.alloc (.cells #[.string p.a,.string p.u,.string p.k] 30)):=(ai _ _).alloc (ag _) _;have hb2:=hb.trans (hal.mono hb.size);have vZ:=jP (HT4.1.below (hb2.mono (by have:=nM.1.lt;have:=Rn.1;omega)));have Vk:=jP (nM.1.below hb2 nM.1.lt);have mY:=jP (HB4.1.trans (hb2.mono HB4.1.size));obtain⟨zp,hz⟩:∃ z,z=w5.heap.size:=⟨_,rfl⟩;have adt:=jP (show Bk (w5.alloc (.cells #[.string p.a,.string p.u,.string p.k] 30)) zp 30 #[.string p.a,.string p.u,.string p.k] by rw[hz];exact Bk.new w5 _ _);go_upto_region 4 with (fail)
 rw[<-hz];clear hal hb hb2 HT4 nM HB4;generalize w5.alloc (.cells #[.string p.a,.string p.u,.string p.k] 30)=w6 at *;clear hz;obtain⟨y0,y1,y2,y3,y4,y5,y6,y7,y8,y9,XN,XM⟩:=rD Vk.1;obtain⟨⟨q,qe⟩,hc⟩:∃ z,Gm.canon T (lst (str nb))=z:=⟨_,rfl⟩;have adq:=jP hc;have hcn:=FC vZ.1 (by have:=Vk.1.lt;have:=Rn.1;omega) (str nb) (by rw[lT];have:=XC.1;omega);rw[hc] at hcn;simp only[Nm.arr] at hcn;have DD:=jP hcn;clear hc hcn;go_wp2_with fail
 refine DD.1.mono ?_;rintro e w7 ⟨rfl,hb⟩;clear y0 y1 y2 y3 y4 y5 y6 y7 y8 y9 XN XM DD;have hal:Below w7.heap.size w7 (w7.alloc (.cells #[.string q.a,.string q.u,.string q.k] 30)):=(ai _ _).alloc (ag _) _;have hb2:=hb.trans (hal.mono hb.size);have qL:=jP (vZ.1.below (hb2.mono (by have:=Vk.1.lt;have:=Rn.1;omega)));have HX8:=jP (Vk.1.below hb2 Vk.1.lt);have qM:=jP (mY.1.trans (hb2.mono mY.1.size));have XI:=jP (adt.1.below hb2 adt.1.lt);obtain⟨zq,hz⟩:∃ z,z=w7.heap.size:=⟨_,rfl⟩;have XH:=jP (show Bk (w7.alloc (.cells #[.string q.a,.string q.u,.string q.k] 30)) zq 30 #[.string q.a,.string q.u,.string q.k] by rw[hz];exact Bk.new w7 _ _);go_upto_region 5 with (fail)
 rw[<-hz];clear hal hb hb2 vZ Vk mY adt;generalize w7.alloc (.cells #[.string q.a,.string q.u,.string q.k] 30)=w8 at *;clear hz;obtain⟨y0,y1,y2,y3,y4,y5,y6,y7,y8,y9,XN,XM⟩:=rD HX8.1;go_wp2_with fail
 refine (new_any 3 4 (by omega) (by omega) (by omega) (by omega) w8 qL.1 (by have:=HX8.1.lt;have:=Rn.1;omega) ((pV.1.below qM.1).more qM.1.size)).mono ?_;rintro e w9 ⟨I,L,rfl,hL,hkp,hIT,htk,hrest,hsh,nK⟩;clear y0 y1 y2 y3 y4 y5 y6 y7 y8 y9 XN XM;have lQ:=jP (qM.1.trans (nK.mono qM.1.size));have xM:=jP XI.1.lt;have HQB:=jP XH.1.lt;have ads:=jP (XI.1.below nK XI.1.lt);have amr:=jP (XH.1.below nK XH.1.lt);have HWX:=jP qM.1;have HGD:=jP qL.1.good;clear qL HX8 XI XH qM;by_cases hpe:pe=0
 case neg=>
  go_wp2_with fail
  refine (FH w9 ((pV.1.below lQ.1).more lQ.1.size)).mono ?_;rintro e w10 ⟨rfl,Qs⟩;have adw:=jP (lQ.1.trans (Qs.mono lQ.1.size));clear Qs;go_wp2_with fail
  go_ret
  exact⟨rfl,adw.1⟩
 case pos=>
 subst hpe;by_cases hqe:qe=0
 case neg=>
  go_wp2_with fail
  refine (FH w9 ((pV.1.below lQ.1).more lQ.1.size)).mono ?_;rintro e w10 ⟨rfl,Qs⟩;have adw:=jP (lQ.1.trans (Qs.mono lQ.1.size));clear Qs;go_wp2_with fail
  go_ret
  exact⟨rfl,adw.1⟩
 case pos=>
 subst hqe;obtain⟨ca,cu,pa0,pa1,pu1,pk0,pk1⟩:=Gm.JZ HGD.1 adr.1;obtain⟨_,_,qa0,qa1,qu1,qk0,qk1⟩:=Gm.JZ HGD.1 adq.1;have HMA:=jP (show Gm.make I.T [str na]=([(p,0)],Rs.fine) by rw[hIT];exact Gm.Gy adr.1);have HMB:=jP (show Gm.make I.T [str nb]=([(q,0)],Rs.fine) by rw[hIT];exact Gm.Gy adq.1);obtain⟨la,hla⟩:∃ l,p.a=str l:=⟨lst p.a,(uF _).symm⟩;obtain⟨lu,hlu⟩:∃ l,p.u=str l:=⟨lst p.u,(uF _).symm⟩;have HMP:=jP (show Gm.make I.T [str la]=([(p,0)],Rs.fine) by rw[hIT,<-hla];exact Gm.Gy ca);have HMU:=jP (show Gm.make I.T [str lu]=([(p,0)],Rs.fine) by rw[hIT,<-hlu];exact Gm.Gy cu);have FW:=jP (show la.length<=63 by rw[hla] at pa1;exact pa1);have HLU:=jP (show lu.length<=1024 by rw[hlu] at pu1;exact pu1);have HHA:=jP hla;have HHU:=jP hlu;clear hla hlu;have NM:=jP pa0;have ado:=jP pa1;have HPK:=jP pk1;have HQA:=jP qa0;have amh:=jP qa1;have HQK:=jP qk1;clear ca cu pa0 pa1 pu1 pk0 pk1 qa0 qa1 qu1 qk0 qk1 adr adq HGD;have HR9:=jP hrest;have Vp:=jP (show qw I 3 4 0 0 p lZ.z w9 from hsh p);have Ci:=jP (Past.refl I w8.heap.size w9);have HKA:=jP htk;have NT:=jP hrest.Be;have uh:=jP (show w.heap.size<=w8.heap.size from HWX.1.size);have Ej:=jP nK.size;have AY:L.length<=64:=by omega
 have HL:=jP hL;clear hrest hsh htk nK hkp hIT;have HI:=jP (fun r:Rs=>show (Tryz.prog.info? 43).map (·.size)=some r.arr.size by kernel_rfl);have HO:=jP (fun r:Rs=>show r.arr.all (·.oneCell')=true by simp[Rs.arr,Value.oneCell']);have HZ:=jP (fun r:Rs=>show (#[.int .i64 0,.int .i64 0,.string ⟨#[]⟩,.int .i64 0,.int .i64 0,.string ⟨#[]⟩,.int .i64 0,.int .i64 0]:Array Value).size=r.arr.size by rfl);have qy:=jP (fun (w:World) (cs:Array Value)=>boxed w #[.int .i64 0,.int .i64 0,.string ⟨#[]⟩,.int .i64 0,.int .i64 0,.string ⟨#[]⟩,.int .i64 0,.int .i64 0] cs 43);obtain⟨k0,hk0⟩:∃ k,L[0]?=some k:=⟨L[0],au (by omega)⟩;obtain⟨k1,hk1⟩:∃ k,L[1]?=some k:=⟨L[1],au (by omega)⟩;obtain⟨k2,hk2⟩:∃ k,L[2]?=some k:=⟨L[2],au (by omega)⟩;obtain⟨kj,hkj⟩:∃ k,L[j0]?=some k:=⟨L[j0],au (by have:=HJ.1;omega)⟩;go_wp2_with fail
 have hal:Below w9.heap.size w9 (w9.alloc (.cells #[.string (str na)] 9)):=(ai _ _).alloc (ag _) _;refine (one_any (nm:=na) (j:=1) (i:=0) (HR9.1.below hal) hk0 AY (by simp) (Vp.1.below hal) (by first | omega | (have:=oN.1;omega)) (((HKA.1 _ (ay hk0)).past Ci.1).past (Past.of_below hal)) (((qi w9 (str na)).more (by simp))) (by omega) (by omega) Jd (by have:=RP.1;omega) (EG na (by have:=RP.1;omega)) (Ru.1.past (lQ.1.trans (((Ci.1.trans (Past.of_below hal)).below Ej.1).mono uh.1)))
  (fun l=>Fj (gr:=1) (r0:=Rc.none) (nm:=na) NT.1 AY (by simp) (Dh na (by have:=RP.1;omega)) lZ.VH (by decide) (by rw[lT];have:=RP.1;omega) HMA.1 (by have:=HPK.1;omega) NM.1 ado.1 (by omega) (lZ.VI _) (by simp[Rc.live,Rc.none]) (by omega) (by omega) rfl (.inl ⟨rfl,by omega⟩) (.inl rfl) (by omega) (by omega))).mono ?_
 rintro e w10 ⟨rfl,⟨o9,hr⟩,hs,hp⟩;have aiK:=jP hr;have aiB:=jP hs;have aiR:=jP ((Ci.1.trans (Past.of_below hal)).trans hp);clear hr hs hp HR9 Vp Ci hal;go_upto_region 11 with (refine wpList_store_row rfl 43 _ _ rfl w10.heap.size (Rs.arr ⟨0,-1,ByteArray.empty,Rc.none,0⟩) rfl rfl 43 _ (Bk.new w10 _ _) (HI.1 _) (HZ.1 _) (HO.1 _) ?_)
 obtain⟨hx,hb⟩:=qy.1 w10 (Rs.arr ⟨0,-1,ByteArray.empty,Rc.none,0⟩);have aiJ:=jP ((aiK.1.below hb).wk [(w10.heap.size,(Rs.arr ⟨0,-1,ByteArray.empty,Rc.none,0⟩))]);have aiA:=jP ((aiB.1.below hb).wk (l:=[(w10.heap.size,(Rs.arr ⟨0,-1,ByteArray.empty,Rc.none,0⟩))]) (by
  intro a ha;rcases aN.1 ha with rfl | ha
  ·exact hx
  ·exact absurd ha (by simp)))
 have XB:=jP (aiR.1.trans (Past.of_below hb));clear hx hb aiK aiB aiR;generalize (w10.alloc (.cells #[.int .i64 0,.int .i64 0,.string ⟨#[]⟩,.int .i64 0,.int .i64 0,.string ⟨#[]⟩,.int .i64 0,.int .i64 0] 43)).setRow w10.heap.size (Rs.arr ⟨0,-1,ByteArray.empty,Rc.none,0⟩)=TP at *;go_wp2_with fail
 refine (P0.1 _).mono ?_;rintro e aoT ⟨rfl,rfl⟩;go_wp2_with fail
 obtain⟨CO,m2,r2,cnt2,herr,hm2,hok2,hU2,adR,hcnt2,ahz⟩:=SN (B:=w8.heap.size) (I:=I.wk [(w10.heap.size,(Rs.arr ⟨0,-1,ByteArray.empty,Rc.none,0⟩))]) (j:=j0) (k:=kj) (xs:=[]++[o9]) (x:=p) (y:=q) (nm:=nb) (st:=0+1+8+1) NT.1 AY (by simp) (by have:=XC.1;omega) HMB.1 (by have:=HQK.1;omega) HQA.1 amh.1 (by omega);have HER:=jP herr;have oN:=jP hm2;have lG:=jP hok2;have Bl:=jP hU2;have HG2:=jP adR;have HC2:=jP hcnt2;clear herr hm2 hok2 hU2 adR hcnt2;have hal:Below TP.heap.size TP (TP.alloc (.cells #[.string (str nb)] 9)):=(ai _ _).alloc (ag _) _;refine (one_any (nm:=nb) (j:=1) (i:=j0) (aiJ.1.below hal) hkj AY (by simp) (aiA.1.below hal) (by first | omega | (have:=oN.1;omega)) (((HKA.1 _ (ay hkj)).past XB.1).past (Past.of_below hal)) (((qi TP (str nb)).more (by simp))) (by omega) (by omega) Jd (by have:=XC.1;omega) (EG nb (by have:=XC.1;omega)) (Ru.1.past (lQ.1.trans (((XB.1.trans (Past.of_below hal)).below Ej.1).mono uh.1)))
  ahz).mono ?_
 rintro e w12 ⟨rfl,⟨o11,hr⟩,hs,hp⟩;have aiI:=jP hr;have adk:=jP hs;have aiQ:=jP ((XB.1.trans (Past.of_below hal)).trans hp);clear hr hs hp aiJ aiA XB hal;go_upto_region 12 with (refine wpList_store_row rfl 43 _ _ rfl w12.heap.size CO.arr rfl rfl 43 _ (Bk.new w12 _ _) (HI.1 _) (HZ.1 _) (HO.1 _) ?_)
 obtain⟨hx,hb⟩:=qy.1 w12 CO.arr;have aiH:=jP ((aiI.1.below hb).wk [(w12.heap.size,CO.arr),(w10.heap.size,(Rs.arr ⟨0,-1,ByteArray.empty,Rc.none,0⟩))]);have aiz:=jP ((adk.1.below hb).wk (l:=[(w12.heap.size,CO.arr),(w10.heap.size,(Rs.arr ⟨0,-1,ByteArray.empty,Rc.none,0⟩))]) (by
  intro a ha;rcases aN.1 ha with rfl | ha
  ·exact hx
  ·exact (adk.1.below hb).kp _ ha))
 have RJ:=jP (aiQ.1.trans (Past.of_below hb));clear hx hb aiI adk aiQ;generalize (w12.alloc (.cells #[.int .i64 0,.int .i64 0,.string ⟨#[]⟩,.int .i64 0,.int .i64 0,.string ⟨#[]⟩,.int .i64 0,.int .i64 0] 43)).setRow w12.heap.size CO.arr=w13 at *;clear ahz;have yp0:=(ads.1.below (RJ.1.below Ej.1) xM.1).cell 0;go_wp2_with fail
 clear yp0;have hal:Below w13.heap.size w13 (w13.alloc (.cells #[.string p.a] 9)):=(ai _ _).alloc (ag _) _;refine (one_any (nm:=la) (j:=1) (i:=1) (aiH.1.below hal) hk1 AY (by simp) (aiz.1.below hal) (by first | omega | (have:=oN.1;omega)) (((HKA.1 _ (ay hk1)).past RJ.1).past (Past.of_below hal)) (by rw[HHA.1];exact ((qi w13 (str la)).more (by simp))) (by omega) (by omega) Jd (by have:=FW.1;omega) (EG la (by have:=FW.1;omega)) (Ru.1.past (lQ.1.trans (((RJ.1.trans (Past.of_below hal)).below Ej.1).mono uh.1)))
  (fun l=>Fp (r0:=⟨1,0,p.a,0+9⟩) (nm:=la) NT.1 AY (by simp) (Dh la (by have:=FW.1;omega)) lG.1 (by have:=Bl.1;omega) (by rw[lT];have:=FW.1;omega) HMP.1 (by have:=HPK.1;omega) NM.1 ado.1 (by have:=oN.1;omega) HG2.1 (lZ.WQ p 0) (by omega) (by omega) (.inr rfl) (by omega) (by have:=HC2.1;omega))).mono ?_
 rintro e GV ⟨rfl,⟨o13,hr⟩,hs,hp⟩;have aiG:=jP hr;have adi:=jP hs;have aiP:=jP ((RJ.1.trans (Past.of_below hal)).trans hp);clear hr hs hp aiH aiz RJ hal;go_upto_region 13 with (refine wpList_store_row rfl 43 _ _ rfl GV.heap.size (Rs.arr ⟨24,0,p.a,Rc.none,0⟩) rfl rfl 43 _ (Bk.new GV _ _) (HI.1 _) (HZ.1 _) (HO.1 _) ?_)
 obtain⟨hx,hb⟩:=qy.1 GV (Rs.arr ⟨24,0,p.a,Rc.none,0⟩);have aiF:=jP ((aiG.1.below hb).wk [(GV.heap.size,(Rs.arr ⟨24,0,p.a,Rc.none,0⟩)),(w12.heap.size,CO.arr),(w10.heap.size,(Rs.arr ⟨0,-1,ByteArray.empty,Rc.none,0⟩))]);have aiy:=jP ((adi.1.below hb).wk (l:=[(GV.heap.size,(Rs.arr ⟨24,0,p.a,Rc.none,0⟩)),(w12.heap.size,CO.arr),(w10.heap.size,(Rs.arr ⟨0,-1,ByteArray.empty,Rc.none,0⟩))]) (by
  intro a ha;rcases aN.1 ha with rfl | ha
  ·exact hx
  ·exact (adi.1.below hb).kp _ ha))
 have RI:=jP (aiP.1.trans (Past.of_below hb));clear hx hb aiG adi aiP;generalize (GV.alloc (.cells #[.int .i64 0,.int .i64 0,.string ⟨#[]⟩,.int .i64 0,.int .i64 0,.string ⟨#[]⟩,.int .i64 0,.int .i64 0] 43)).setRow GV.heap.size (Rs.arr ⟨24,0,p.a,Rc.none,0⟩)=w15 at *;have yp1:=(ads.1.below (RI.1.below Ej.1) xM.1).cell 1;go_wp2_with fail
 clear yp1;have hal:Below w15.heap.size w15 (w15.alloc (.cells #[.string p.u] 9)):=(ai _ _).alloc (ag _) _;refine (one_any (nm:=lu) (j:=1) (i:=2) (aiF.1.below hal) hk2 AY (by simp) (aiy.1.below hal) (by first | omega | (have:=oN.1;omega)) (((HKA.1 _ (ay hk2)).past RI.1).past (Past.of_below hal)) (by rw[HHU.1];exact ((qi w15 (str lu)).more (by simp))) (by omega) (by omega) Jd (by have:=HLU.1;omega) (EG lu (by have:=HLU.1;omega)) (Ru.1.past (lQ.1.trans (((RI.1.trans (Past.of_below hal)).below Ej.1).mono uh.1)))
  (fun l=>Fp (r0:=⟨1,0,p.a,0+9⟩) (nm:=lu) NT.1 AY (by simp) (Dh lu (by have:=HLU.1;omega)) lG.1 (by have:=Bl.1;omega) (by rw[lT];have:=HLU.1;omega) HMU.1 (by have:=HPK.1;omega) NM.1 ado.1 (by have:=oN.1;omega) HG2.1 (lZ.WQ p 0) (by omega) (by omega) (.inr rfl) (by omega) (by have:=HC2.1;omega))).mono ?_
 rintro e w16 ⟨rfl,⟨o15,hr⟩,hs,hp⟩;have aiE:=jP hr;have adh:=jP hs;have aiO:=jP ((RI.1.trans (Past.of_below hal)).trans hp);clear hr hs hp aiF aiy RI hal;go_upto_region 14 with (refine wpList_store_row rfl 43 _ _ rfl w16.heap.size (Rs.arr ⟨24,0,p.a,Rc.none,0⟩) rfl rfl 43 _ (Bk.new w16 _ _) (HI.1 _) (HZ.1 _) (HO.1 _) ?_)
 obtain⟨hx,hb⟩:=qy.1 w16 (Rs.arr ⟨24,0,p.a,Rc.none,0⟩);have apq:=jP ((aiE.1.below hb).wk [(w16.heap.size,(Rs.arr ⟨24,0,p.a,Rc.none,0⟩)),(GV.heap.size,(Rs.arr ⟨24,0,p.a,Rc.none,0⟩)),(w12.heap.size,CO.arr),(w10.heap.size,(Rs.arr ⟨0,-1,ByteArray.empty,Rc.none,0⟩))]);have RD:=jP ((adh.1.below hb).wk (l:=[(w16.heap.size,(Rs.arr ⟨24,0,p.a,Rc.none,0⟩)),(GV.heap.size,(Rs.arr ⟨24,0,p.a,Rc.none,0⟩)),(w12.heap.size,CO.arr),(w10.heap.size,(Rs.arr ⟨0,-1,ByteArray.empty,Rc.none,0⟩))]) (by
  intro a ha;rcases aN.1 ha with rfl | ha
  ·exact hx
  ·exact (adh.1.below hb).kp _ ha))
 have adp:=jP (aiO.1.trans (Past.of_below hb));clear hx hb aiE adh aiO;generalize (w16.alloc (.cells #[.int .i64 0,.int .i64 0,.string ⟨#[]⟩,.int .i64 0,.int .i64 0,.string ⟨#[]⟩,.int .i64 0,.int .i64 0] 43)).setRow w16.heap.size (Rs.arr ⟨24,0,p.a,Rc.none,0⟩)=w17 at *;have z0:=(RD.1.kp _ (aU _ (aU _ (aU _ (eF ..))))).cell 0;have z1:=(RD.1.kp _ (aU _ (aU _ (eF ..)))).cell 0;have z2:=(RD.1.kp _ (aU _ (eF ..))).cell 0;have z3:=(RD.1.kp _ (eF ..)).cell 0;have qK:=jP (RD.1.kp _ (aU _ (aU _ (eF ..))));replace z0:w17.cell? ⟨w10.heap.size,0,none⟩=some (.int .i64 0):=z0;replace z2:w17.cell? ⟨GV.heap.size,0,none⟩=some (.int .i64 24):=z2;replace z3:w17.cell? ⟨w16.heap.size,0,none⟩=some (.int .i64 24):=z3;clear z1;have XL:=jP (lQ.1.trans ((adp.1.below Ej.1).mono uh.1));have ajg:=jP (ads.1.below (adp.1.below Ej.1) xM.1);have ajf:=jP (amr.1.below (adp.1.below Ej.1) HQB.1);go_wp2_with fail
 clear z0 z2 z3;refine (FH w17 ((pV.1.below XL.1).more XL.1.size)).mono ?_;rintro e w18 ⟨rfl,Qr⟩;have z1:w18.cell? ⟨w12.heap.size,0,none⟩=some (.int .i64 CO.err):=(qK.1.below Qr qK.1.lt).cell 0;have yk:=(ajg.1.below Qr ajg.1.lt).cell 2;have yq:=(ajf.1.below Qr ajf.1.lt).cell 2;have HBF:=jP (XL.1.trans (Qr.mono XL.1.size));clear Qr;rw[HER.1] at z1;by_cases hk:q.k=p.k
 ·rw[aj hk] at z1;rw[hk] at yq;have hbb:(p.k.toList==p.k.toList)=true:=by simp
  go_wp2_with fail
  go_ret
  exact⟨rfl,HBF.1⟩
 ·rw[ah hk] at z1;have hbb:(p.k.toList==q.k.toList)=false:=by
   rw[aX,eY,eY];intro e;exact hk (ByteArray.ext (Array.toList_inj.1 e)).symm
  go_wp2_with fail
  go_ret
  exact⟨rfl,HBF.1⟩
end Go.Proofs.YtkachcflifhgiaaGreatDoor
