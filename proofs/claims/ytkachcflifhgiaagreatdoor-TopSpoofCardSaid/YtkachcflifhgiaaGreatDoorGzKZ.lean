/-  -/
import Derived.Test.YtkachcflifhgiaaGreatDoorM31
set_option linter.unusedVariables false
set_option maxRecDepth 100000
set_option maxHeartbeats 16000000
namespace Go.Proofs.YtkachcflifhgiaaGreatDoor
open Go Go.RowKit Go.Shelf
theorem oC.start (x:World)(gt:Nat)(h:Bk x gt 26 (kK V0)):oC [] gt (fun _=>Sl.z) (qQ [] [] [] [] [] [] []) [] x:=by
 refine⟨h,fun i hi _=>⟨by simp,fun z B _ _=>?_⟩,by simp,by simp⟩;unfold qJ;have e3:∀ j,AA (qQ [] [] [] [] [] [] []) j=[]:=fun j=>by unfold AA;split<;>rfl
 have e1:∀ j,xI (qQ [] [] [] [] [] [] []) j=[]:=fun j=>by unfold xI;split<;>rfl
 split
 ·rw[e1];exact⟨rfl,fun h=>absurd h (by simp[spans])⟩
 ·split
  ·exact⟨rfl,fun h=>absurd h (by simp[ints])⟩
  ·rw[e3];exact qZ.nil _ _ _
theorem Lk.KZ {W x y:World}{g gt bp k sc:Nat}{A:Option Addr}{st:List Int}{S:Nat->Sl}{T:Gm.Tab}{bs:List Nat}{z:Nat}{cs:Array Value}(h:Lk W g gt bp A k sc st S T bs x)(hz:Bk x z 78 cs)(ho:jR [z] x y)(h1:bp<z)(h2:z∉bs):Lk W g gt bp A k sc st S T bs y:=by
 have hK:lg x [z] [78]:=lg.one hz;have h5:=h.lt;have h6:=h.lp;have h7:=h.gW;exact⟨h.src.jS ho (by simp;omega) (by simp;omega),h.tb.jS ho (fun q hq hm=>h2 (by rw[<-aB.1 hm];exact hq)) (by simp;omega),h.pool.jS ho (by simp;omega),rY h.row ho hK (by decide),ho.fresh h.bl (fun q hq=>by rw[aB.1 hq];omega) h.bl.size,h.gW,h.lt,h.lp,h.ng,h.nr,h.nil_,h.bg⟩
def ah7 (w:World)(e:Ending)(w':World):Prop:=∃ (V:TV) (T:Gm.Tab),e=.returned (kF V)/\j_ w' w'.heap.size V T/\Below w.heap.size w w'
theorem SI {w:World}{A:Option Addr}{n c B:Nat}{xs:List Int}(hr:Rd w B 1 A n (ints xs))(hB:B<=w.heap.size)(hn:n<=maxLen)(hblk:xg w w.heap.size) :
  Calls Tryz.prog 6 #[.slice A n c] w (ah7 w):=by
 have HF:=jP (fun (W:World) (hb:Below w.heap.size w W)=>ZE (c:=c) (hr.below (hb.mono hB)) (aK hB hb.size) hn);clear hr hB hn;have pV:=jP hblk;clear hblk;have HWZ:=jP (show (w.alloc (.cells z12 26)).heap.size=w.heap.size+1 by simp);have xO:=jP (show Below w.heap.size w (w.alloc (.cells z12 26)) from (ai _ _).alloc (ag _) _);have HRX:=jP (Bk.new w 26 z12);go_enter Tryz.func6,Tryz.ntmps6
 go_wp2_with fail
 generalize w.alloc (.cells z12 26)=wz at *;refine (HF.1 _ xO.1).mono ?_;rintro e w1 ⟨g,rfl,hs,hg,hb⟩;have Bq:=jP hs;have HG:=jP hg;have HB1:=jP hb;clear hs hg hb HF;go_wp2_with fail
 have hal:Below w1.heap.size w1 (w1.alloc (.cells z12 26)):=(ai _ _).alloc (ag _) _;have HT2:=jP (oC.start (w1.alloc (.cells z12 26)) w1.heap.size (show Bk _ _ _ (kK V0) from Bk.new w1 26 z12));have HS2:=jP (Bq.1.below hal);have HGT:=jP Bq.1.lt;have HB2:=jP (HB1.1.trans (hal.mono HB1.1.size));clear hal Bq HB1;obtain⟨gt,hgt⟩:∃ z,z=w1.heap.size:=⟨_,rfl⟩;rw[<-hgt] at HT2 HGT ⊢;generalize w1.alloc (.cells z12 26)=w2 at *;clear hgt;refine (lK HS2.1 3 (by omega) (by omega)).mono ?_;rintro e w3 ⟨r,rfl,r0,r1,hs3,ho3⟩;have mg:=jP hs3;have HT3:=jP (HT2.1.jS ho3 (by simp) (by have:=HGT.1;simp;omega));have HB3:=jP (nC.past ho3 HB2.1 HG.1);clear hs3 ho3 HS2 HT2 HB2;obtain⟨alf,hw⟩:∃ b:Bool,(r==0)=b:=⟨_,rfl⟩;go_wp2_with fail
 refine (Iy _).mono ?_;rintro e w4 ⟨bp,rfl,hbp,hbw,hb4⟩;have Eu:=jP (show Lk wz g gt bp none 0 0 [] (fun _=>Sl.z) (qQ [] [] [] [] [] [] []) [] w4 from ⟨mg.1.below hb4,HT3.1.below hb4,hbp,aH _ _ _ _,HB3.1.trans (hb4.mono HB3.1.size),HG.1,HGT.1,by have:=HT3.1.bx.lt;omega,by simp,by simp[jT],fun _ _=>rfl,by simp⟩);clear hbp hbw hb4 mg HT3 HB3 r0 r1;go_wp2_with fail
 go_loopw [6,21] (fun vs vi wr=>∃ (k:Nat) (A:Option Addr) (sc:Nat) (st:List Int) (S:Nat->Sl) (c0 c1 c2 c3 c4 c6:List Rg.Sn) (bs:List Nat),k<=28/\vi=.int .i64 k/\vs=.slice A k sc/\Lk wz g gt bp A k sc st S (qQ c0 c1 c2 c3 c4 [] c6) bs wr/\C_ k st (qQ c0 c1 c2 c3 c4 [] c6)) (fun _ vi _=>28-(intOf vi).toNat)
 case atStart=>exact⟨0,none,0,[],_,[],[],[],[],[],[],[],by omega,rfl,rfl,Eu.1,C_.start⟩
 case round=>
  obtain⟨k,A2,sc,st,S,c0,c1,c2,c3,c4,c6,bs,hk,rfl,rfl,hl,hp⟩:=hrel;have HL:=jP hl;have HP:=jP hp;clear hl hp Eu;by_cases hlt:k<28
  ·obtain⟨c,hc⟩:∃ c,Gm.nR[k]?=some c:=⟨_,au (by exact hlt)⟩;have x0:wr.cell? ⟨bp,k,none⟩=some (.int .i64 c):=rP.cell HL.1.pool hc;have HC:=jP hc;clear hc;go_wp2_with fail
   refine (XU c (ay HC.1) _).mono ?_;rintro e w5 ⟨u0,u1,u2,u3,u4,u5,rfl,h0,h1,h2,h3,h4,h5,hb5⟩;have NJ:=jP h0;have NI:=jP h1;have Bl:=jP h2;have NH:=jP h3;have NG:=jP h4;have NF:=jP h5;have Et:=jP (HL.1.below hb5);clear hb5 h0 h1 h2 h3 h4 h5 HL x0;cases alf
   ·go_wp2_with fail
    have hal:=(ai w5.heap.size w5).alloc (ag _) (.cells #[.int .i64 u0,.int .i64 u1,.int .i64 u2,.int .i64 u3,.int .i64 u4,.int .i64 u5] 78);have HU:=jP (Bk.new w5 78 #[.int .i64 u0,.int .i64 u1,.int .i64 u2,.int .i64 u3,.int .i64 u4,.int .i64 u5]);have hal2:=hal.trans (((ai _ _).alloc (ag _) (.cells #[.int .i64 c,.int .i64 c,.int .i64 0] 82)).mono hal.size);have Gi:=jP (Et.1.below hal2);have xK:=jP (HU.1.alloc (.cells #[.int .i64 c,.int .i64 c,.int .i64 0] 82));have HX0:=jP (l_ w5 (.cells #[.int .i64 u0,.int .i64 u1,.int .i64 u2,.int .i64 u3,.int .i64 u4,.int .i64 u5] 78) 82 #[.int .i64 c,.int .i64 c,.int .i64 0]);clear hal hal2 HU Et;generalize (w5.alloc (.cells #[.int .i64 u0,.int .i64 u1,.int .i64 u2,.int .i64 u3,.int .i64 u4,.int .i64 u5] 78)).alloc (.cells #[.int .i64 c,.int .i64 c,.int .i64 0] 82)=v0 at *;refine (uJ Gi.1.tb (show 0<7 by omega) (by simp) (show (c0:List Rg.Sn).length<=1000 from aK (show (c0:List Rg.Sn).length<=k from HP.1.cat.len) (by omega)) c c 0 u0).mono ?_;rintro e v1 ⟨rfl,S1,bs1,ht,hbs,ho,hS⟩;rw[ad6] at ht;have HA1:=jP (Gi.1.col ht hbs ho (fun i hi=>hS i (by omega)));have Bj:=jP (xK.1.jS ho (by simpa using Bk.ne xK.1 Gi.1.tb.bx (by decide)));have qK:=jP (HX0.1.jS ho (by simpa using Bk.ne HX0.1 Gi.1.tb.bx (by decide)));clear ht hbs ho hS Gi xK HX0;have y0:=qK.1.cell 0;have y1:=qK.1.cell 1;have y2:=qK.1.cell 2;have yu:=Bj.1.cell 1;go_wp2_with fail
    refine (uJ HA1.1.tb (show 1<7 by omega) (by simp) (show (c1:List Rg.Sn).length<=1000 from aK (show (c1:List Rg.Sn).length<=k from HP.1.cls.len) (by omega)) c c 0 u1).mono ?_;rintro e v2 ⟨rfl,S2,ou,ht,hbs,ho,hS⟩;rw[ad5] at ht;have HA2:=jP (HA1.1.col ht hbs ho (fun i hi=>hS i (by omega)));have uk:=jP (Bj.1.jS ho (by simpa using Bk.ne Bj.1 HA1.1.tb.bx (by decide)));have lV:=jP (qK.1.jS ho (by simpa using Bk.ne qK.1 HA1.1.tb.bx (by decide)));clear ht hbs ho hS HA1 Bj qK y0 y1 y2 yu;have y0:=lV.1.cell 0;have y1:=lV.1.cell 1;have y2:=lV.1.cell 2;have yu:=uk.1.cell 2;go_wp2_with fail
    refine (uJ HA2.1.tb (show 2<7 by omega) (by simp) (show (c2:List Rg.Sn).length<=1000 from aK (show (c2:List Rg.Sn).length<=k from HP.1.ku.len) (by omega)) c c 0 u2).mono ?_;rintro e v3 ⟨rfl,S3,bs3,ht,hbs,ho,hS⟩;rw[ad4] at ht;have CG:=jP (HA2.1.col ht hbs ho (fun i hi=>hS i (by omega)));have Cc:=jP (uk.1.jS ho (by simpa using Bk.ne uk.1 HA2.1.tb.bx (by decide)));have lM:=jP (lV.1.jS ho (by simpa using Bk.ne lV.1 HA2.1.tb.bx (by decide)));clear ht hbs ho hS HA2 uk lV y0 y1 y2 yu;have y0:=lM.1.cell 0;have y1:=lM.1.cell 1;have y2:=lM.1.cell 2;have yu:=Cc.1.cell 3;go_wp2_with fail
    refine (uJ CG.1.tb (show 3<7 by omega) (by simp) (show (c3:List Rg.Sn).length<=1000 from aK (show (c3:List Rg.Sn).length<=k from HP.1.jX.len) (by omega)) c c 0 u3).mono ?_;rintro e v4 ⟨rfl,S4,bs4,ht,hbs,ho,hS⟩;rw[ad3] at ht;have Gh:=jP (CG.1.col ht hbs ho (fun i hi=>hS i (by omega)));have Ep:=jP (Cc.1.jS ho (by simpa using Bk.ne Cc.1 CG.1.tb.bx (by decide)));have nM:=jP (lM.1.jS ho (by simpa using Bk.ne lM.1 CG.1.tb.bx (by decide)));clear ht hbs ho hS CG Cc lM y0 y1 y2 yu;have y0:=nM.1.cell 0;have y1:=nM.1.cell 1;have y2:=nM.1.cell 2;have yu:=Ep.1.cell 4;go_wp2_with fail
    refine (uJ Gh.1.tb (show 4<7 by omega) (by simp) (show (c4:List Rg.Sn).length<=1000 from aK (show (c4:List Rg.Sn).length<=k from HP.1.scr.len) (by omega)) c c 0 u4).mono ?_;rintro e v5 ⟨rfl,S5,bs5,ht,hbs,ho,hS⟩;rw[ad2] at ht;have uO:=jP (Gh.1.col ht hbs ho (fun i hi=>hS i (by omega)));have HV5:=jP (Ep.1.jS ho (by simpa using Bk.ne Ep.1 Gh.1.tb.bx (by decide)));have ug:=jP (nM.1.jS ho (by simpa using Bk.ne nM.1 Gh.1.tb.bx (by decide)));clear ht hbs ho hS Gh Ep nM y0 y1 y2 yu;have y0:=ug.1.cell 0;have y1:=ug.1.cell 1;have y2:=ug.1.cell 2;have TN:=HV5.1.cell 5;by_cases D7:c=173
    ·have hcb:(c==173)=true:=by simpa using D7
     clear D7;go_wp2_with fail
     refine (uJ uO.1.tb (show 6<7 by omega) (by simp) (show (c6:List Rg.Sn).length<=1000 from aK (show (c6:List Rg.Sn).length<=k from HP.1.jW.len) (by omega)) c c 0 1).mono ?_;rintro e v6 ⟨rfl,S6,FD,ht,hbs,ho,hS⟩;rw[Xx] at ht;have BH:=jP (uO.1.col ht hbs ho (fun i hi=>hS i (by omega)));have vY:=jP (HV5.1.jS ho (by simpa using Bk.ne HV5.1 uO.1.tb.bx (by decide)));clear ht hbs ho hS uO HV5 y0 y1 y2 TN;have yu6:=vY.1.cell 5;have hlp:=BH.1.pool.lt;go_wp2_with (at_builtin;refine kW (by rfl) _ _ rfl (base:=bp+1) (xs:=st) rfl (BH.1.row.alloc _) rfl (kG (z:=v6.heap.size) rfl u5) (by omega) (by simp<;>omega) ?_)
     intro A9 c9 w9 ni nJ zG;have lQ:=jP (BH.1.below ((ai _ _).alloc (ag _) (.cells #[.int .i64 u5] 3)));have nD:∀ q∈jT A9,q∈jT A2\/(v6.alloc (.cells #[.int .i64 u5] 3)).heap.size<=q:=by
      intro q hq;cases A9 with
      | none=>simp[jT] at hq
      | some a=>
       simp[jT] at hq;subst hq;rcases zG with e | e
       ·cases A2 with
        | none=>cases e
        | some a'=>
         simp[Value.ownBlock] at e;exact .inl (by simp[jT,e])
       ·simp[Value.ownBlock] at e;exact .inr (by simp;omega)
     have Kz:=jP (lQ.1.stat ni nJ nD);have Ci:=jP (show C_ (k+1) (st++[u5]) (qQ (oz c0 ⟨c,c,u0⟩) (oz c1 ⟨c,c,u1⟩) (oz c2 ⟨c,c,u2⟩) (oz c3 ⟨c,c,u3⟩) (oz c4 ⟨c,c,u4⟩) [] (oz c6 ⟨c,c,1⟩)) from
      ⟨HP.1.cat.ad HC.1 (fun h=>by omega) NJ.1.2,HP.1.cls.ad HC.1 (fun h=>by omega) NI.1.2,HP.1.ku.ad HC.1 (fun h=>by omega) Bl.1.2,HP.1.jX.ad HC.1 (fun h=>by omega) NH.1.2,HP.1.scr.ad HC.1 (fun h=>by omega) NG.1.2,
       HP.1.jW.ad (v:=1) HC.1 (fun _=>by omega) (by omega),rfl,rfl,rfl,rfl,rfl,rfl,by rw[aA,HP.1.len];rfl,fun z hz=>by
        rcases aO.1 hz with h | h
        ·exact HP.1.va z h
        ·rw[aB.1 h];exact NF.1⟩)
     clear ni nJ zG nD lQ hlp;go_wp2_with fail
     go_roundw
     case rel=>exact⟨k+1,A9,c9,st++[u5],S6,_,_,_,_,_,_,FD,by omega,by go_num,rfl,Kz.1,Ci.1⟩
     case measure=>simp only[intOf]<;>omega
    ·have hcb:(c==173)=false:=by simpa using D7
     clear D7;have hlp:=uO.1.pool.lt;go_wp2_with (at_builtin;refine kW (by rfl) _ _ rfl (base:=bp+1) (xs:=st) rfl (uO.1.row.alloc _) rfl (kG (z:=v5.heap.size) rfl u5) (by omega) (by simp<;>omega) ?_)
     intro A9 c9 w9 ni nJ zG;have lQ:=jP (uO.1.below ((ai _ _).alloc (ag _) (.cells #[.int .i64 u5] 3)));have nD:∀ q∈jT A9,q∈jT A2\/(v5.alloc (.cells #[.int .i64 u5] 3)).heap.size<=q:=by
      intro q hq;cases A9 with
      | none=>simp[jT] at hq
      | some a=>
       simp[jT] at hq;subst hq;rcases zG with e | e
       ·cases A2 with
        | none=>cases e
        | some a'=>
         simp[Value.ownBlock] at e;exact .inl (by simp[jT,e])
       ·simp[Value.ownBlock] at e;exact .inr (by simp;omega)
     have Kz:=jP (lQ.1.stat ni nJ nD);have Ci:=jP (show C_ (k+1) (st++[u5]) (qQ (oz c0 ⟨c,c,u0⟩) (oz c1 ⟨c,c,u1⟩) (oz c2 ⟨c,c,u2⟩) (oz c3 ⟨c,c,u3⟩) (oz c4 ⟨c,c,u4⟩) [] c6) from
      ⟨HP.1.cat.ad HC.1 (fun h=>by omega) NJ.1.2,HP.1.cls.ad HC.1 (fun h=>by omega) NI.1.2,HP.1.ku.ad HC.1 (fun h=>by omega) Bl.1.2,HP.1.jX.ad HC.1 (fun h=>by omega) NH.1.2,HP.1.scr.ad HC.1 (fun h=>by omega) NG.1.2,
       HP.1.jW.mono,rfl,rfl,rfl,rfl,rfl,rfl,by rw[aA,HP.1.len];rfl,fun z hz=>by
        rcases aO.1 hz with h | h
        ·exact HP.1.va z h
        ·rw[aB.1 h];exact NF.1⟩)
     clear ni nJ zG nD lQ hlp;go_wp2_with fail
     go_roundw
     case rel=>exact⟨k+1,A9,c9,st++[u5],S5,_,_,_,_,_,_,bs5,by omega,by go_num,rfl,Kz.1,Ci.1⟩
     case measure=>simp only[intOf]<;>omega
   ·go_wp2_with fail
    have hal:=(ai w5.heap.size w5).alloc (ag _) (.cells #[.int .i64 u0,.int .i64 u1,.int .i64 u2,.int .i64 u3,.int .i64 u4,.int .i64 u5] 78);have xK:=jP (Bk.new w5 78 #[.int .i64 u0,.int .i64 u1,.int .i64 u2,.int .i64 u3,.int .i64 u4,.int .i64 u5]);have HD0:=jP (Et.1.below hal);obtain⟨zu,hzu⟩:∃ z,z=w5.heap.size:=⟨_,rfl⟩;have Rt:=jP (show zu∉bs from fun h=>by have:=Et.1.tb.lt zu h;omega);have Ro:=jP (show bp<zu by have:=Et.1.pool.lt;omega);clear hal Et;rw[<-hzu] at xK ⊢;have hsz0:(w5.alloc (.cells #[.int .i64 u0,.int .i64 u1,.int .i64 u2,.int .i64 u3,.int .i64 u4,.int .i64 u5] 78)).heap.size=zu+1:=by rw[hzu];simp
    generalize w5.alloc (.cells #[.int .i64 u0,.int .i64 u1,.int .i64 u2,.int .i64 u3,.int .i64 u4,.int .i64 u5] 78)=v0 at *;clear hzu;have HRW:=jP (show Bk (v0.alloc (.cells #[.int .i64 u0,.int .i64 2,.int .i64 1] 3)) (zu+1) 3 #[.int .i64 u0,.int .i64 2,.int .i64 1] by rw[<-hsz0];exact Bk.new v0 _ _);have hal:=(ai v0.heap.size v0).alloc (ag _) (.cells #[.int .i64 u0,.int .i64 2,.int .i64 1] 3);have sN:=jP (HD0.1.below hal);have vJ:=jP (xK.1.alloc (.cells #[.int .i64 u0,.int .i64 2,.int .i64 1] 3));clear hal HD0 xK hsz0;refine (vU (xs:=[u0,2,1]) sN.1.src HRW.1 (by simp) (by simp)).mono ?_;rintro e a0 ⟨r0,hr,rfl,hs,ho⟩;have zg:=jP (sN.1.turn hs ho);obtain⟨cs,hcs⟩:=sN.1.src.bk;have o5:=jP (vJ.1.jS ho (by simpa using Bk.ne vJ.1 hcs (by decide)));simp only[aN,aZ,dw] at hr;have hub:=NJ.1;have HW0:=jP (show 0<=r0/\r0<=8 by omega);clear hr hub hs ho hcs cs HRW sN vJ NJ;have Bj:=jP (show Bk (a0.setCell ⟨zu,0,none⟩ (.int .i64 r0)) zu 78 #[.int .i64 r0,.int .i64 u1,.int .i64 u2,.int .i64 u3,.int .i64 u4,.int .i64 u5] from o5.1.kM 0 (.int .i64 r0));have HD1:=jP (zg.1.KZ o5.1 ((jR.refl [zu] a0).setCell (p:=⟨zu,0,none⟩) (.inl (by simp)) (.int .i64 r0)) Ro.1 Rt.1);have yc:=o5.1.cell 0;have fc:=o5.1.frozen 0;have yn:=o5.1.cell 1;go_wp2_with fail
    clear yc fc zg o5 yn;have hsz1:(a0.setCell ⟨zu,0,none⟩ (.int .i64 r0)).heap.size=a0.heap.size:=gQ ..;generalize hvn:a0.setCell ⟨zu,0,none⟩ (.int .i64 r0)=v1 at *;clear hvn;have HRW:=jP (show Bk (v1.alloc (.cells #[.int .i64 u1,.int .i64 0,.int .i64 1,.int .i64 9,.int .i64 202,.int .i64 220,.int .i64 230,.int .i64 254] 3)) (a0.heap.size) 3 #[.int .i64 u1,.int .i64 0,.int .i64 1,.int .i64 9,.int .i64 202,.int .i64 220,.int .i64 230,.int .i64 254] by rw[<-hsz1];exact Bk.new v1 _ _);have hal:=(ai v1.heap.size v1).alloc (ag _) (.cells #[.int .i64 u1,.int .i64 0,.int .i64 1,.int .i64 9,.int .i64 202,.int .i64 220,.int .i64 230,.int .i64 254] 3);have sN:=jP (HD1.1.below hal);have vJ:=jP (Bj.1.alloc (.cells #[.int .i64 u1,.int .i64 0,.int .i64 1,.int .i64 9,.int .i64 202,.int .i64 220,.int .i64 230,.int .i64 254] 3));clear hal HD1 Bj hsz1;refine (vU (xs:=[u1,0,1,9,202,220,230,254]) sN.1.src HRW.1 (by simp) (by simp)).mono ?_;rintro e a1 ⟨r1,hr,rfl,hs,ho⟩;have zg:=jP (sN.1.turn hs ho);obtain⟨cs,hcs⟩:=sN.1.src.bk;have o5:=jP (vJ.1.jS ho (by simpa using Bk.ne vJ.1 hcs (by decide)));simp only[aN,aZ,dw] at hr;have hub:=NI.1;have HW1:=jP (show 0<=r1/\r1<=254 by omega);clear hr hub hs ho hcs cs HRW sN vJ NI;have uk:=jP (show Bk (a1.setCell ⟨zu,1,none⟩ (.int .i64 r1)) zu 78 #[.int .i64 r0,.int .i64 r1,.int .i64 u2,.int .i64 u3,.int .i64 u4,.int .i64 u5] from o5.1.kM 1 (.int .i64 r1));have HD2:=jP (zg.1.KZ o5.1 ((jR.refl [zu] a1).setCell (p:=⟨zu,1,none⟩) (.inl (by simp)) (.int .i64 r1)) Ro.1 Rt.1);have yc:=o5.1.cell 1;have fc:=o5.1.frozen 1;have yn:=o5.1.cell 2;go_wp2_with fail
    clear yc fc zg o5 yn;have hsz2:(a1.setCell ⟨zu,1,none⟩ (.int .i64 r1)).heap.size=a1.heap.size:=gQ ..;generalize hvn:a1.setCell ⟨zu,1,none⟩ (.int .i64 r1)=v2 at *;clear hvn;have HRW:=jP (show Bk (v2.alloc (.cells #[.int .i64 u2,.int .i64 0,.int .i64 1,.int .i64 2,.int .i64 3,.int .i64 4,.int .i64 5] 3)) (a1.heap.size) 3 #[.int .i64 u2,.int .i64 0,.int .i64 1,.int .i64 2,.int .i64 3,.int .i64 4,.int .i64 5] by rw[<-hsz2];exact Bk.new v2 _ _);have hal:=(ai v2.heap.size v2).alloc (ag _) (.cells #[.int .i64 u2,.int .i64 0,.int .i64 1,.int .i64 2,.int .i64 3,.int .i64 4,.int .i64 5] 3);have sN:=jP (HD2.1.below hal);have vJ:=jP (uk.1.alloc (.cells #[.int .i64 u2,.int .i64 0,.int .i64 1,.int .i64 2,.int .i64 3,.int .i64 4,.int .i64 5] 3));clear hal HD2 uk hsz2;refine (vU (xs:=[u2,0,1,2,3,4,5]) sN.1.src HRW.1 (by simp) (by simp)).mono ?_;rintro e a2 ⟨r2,hr,rfl,hs,ho⟩;have zg:=jP (sN.1.turn hs ho);obtain⟨cs,hcs⟩:=sN.1.src.bk;have o5:=jP (vJ.1.jS ho (by simpa using Bk.ne vJ.1 hcs (by decide)));simp only[aN,aZ,dw] at hr;have hub:=Bl.1;have HW2:=jP (show 0<=r2/\r2<=5 by omega);clear hr hub hs ho hcs cs HRW sN vJ Bl;have Cc:=jP (show Bk (a2.setCell ⟨zu,2,none⟩ (.int .i64 r2)) zu 78 #[.int .i64 r0,.int .i64 r1,.int .i64 r2,.int .i64 u3,.int .i64 u4,.int .i64 u5] from o5.1.kM 2 (.int .i64 r2));have HD3:=jP (zg.1.KZ o5.1 ((jR.refl [zu] a2).setCell (p:=⟨zu,2,none⟩) (.inl (by simp)) (.int .i64 r2)) Ro.1 Rt.1);have yc:=o5.1.cell 2;have fc:=o5.1.frozen 2;have yn:=o5.1.cell 3;go_wp2_with fail
    clear yc fc zg o5 yn;have hsz3:(a2.setCell ⟨zu,2,none⟩ (.int .i64 r2)).heap.size=a2.heap.size:=gQ ..;generalize hvn:a2.setCell ⟨zu,2,none⟩ (.int .i64 r2)=v3 at *;clear hvn;have HRW:=jP (show Bk (v3.alloc (.cells #[.int .i64 u3,.int .i64 0,.int .i64 1,.int .i64 2,.int .i64 3,.int .i64 4,.int .i64 8,.int .i64 10,.int .i64 11] 3)) (a2.heap.size) 3 #[.int .i64 u3,.int .i64 0,.int .i64 1,.int .i64 2,.int .i64 3,.int .i64 4,.int .i64 8,.int .i64 10,.int .i64 11] by rw[<-hsz3];exact Bk.new v3 _ _);have hal:=(ai v3.heap.size v3).alloc (ag _) (.cells #[.int .i64 u3,.int .i64 0,.int .i64 1,.int .i64 2,.int .i64 3,.int .i64 4,.int .i64 8,.int .i64 10,.int .i64 11] 3);have sN:=jP (HD3.1.below hal);have vJ:=jP (Cc.1.alloc (.cells #[.int .i64 u3,.int .i64 0,.int .i64 1,.int .i64 2,.int .i64 3,.int .i64 4,.int .i64 8,.int .i64 10,.int .i64 11] 3));clear hal HD3 Cc hsz3;refine (vU (xs:=[u3,0,1,2,3,4,8,10,11]) sN.1.src HRW.1 (by simp) (by simp)).mono ?_;rintro e a3 ⟨r3,hr,rfl,hs,ho⟩;have zg:=jP (sN.1.turn hs ho);obtain⟨cs,hcs⟩:=sN.1.src.bk;have o5:=jP (vJ.1.jS ho (by simpa using Bk.ne vJ.1 hcs (by decide)));simp only[aN,aZ,dw] at hr;have hub:=NH.1;have HW3:=jP (show 0<=r3/\r3<=11 by omega);clear hr hub hs ho hcs cs HRW sN vJ NH;have Ep:=jP (show Bk (a3.setCell ⟨zu,3,none⟩ (.int .i64 r3)) zu 78 #[.int .i64 r0,.int .i64 r1,.int .i64 r2,.int .i64 r3,.int .i64 u4,.int .i64 u5] from o5.1.kM 3 (.int .i64 r3));have HD4:=jP (zg.1.KZ o5.1 ((jR.refl [zu] a3).setCell (p:=⟨zu,3,none⟩) (.inl (by simp)) (.int .i64 r3)) Ro.1 Rt.1);have yc:=o5.1.cell 3;have fc:=o5.1.frozen 3;have yn:=o5.1.cell 4;go_wp2_with fail
    clear yc fc zg o5 yn;have acd:(a3.setCell ⟨zu,3,none⟩ (.int .i64 r3)).heap.size=a3.heap.size:=gQ ..;generalize hvn:a3.setCell ⟨zu,3,none⟩ (.int .i64 r3)=v4 at *;clear hvn;have HRW:=jP (show Bk (v4.alloc (.cells #[.int .i64 u4,.int .i64 0,.int .i64 1,.int .i64 2,.int .i64 3,.int .i64 6,.int .i64 7,.int .i64 9,.int .i64 10] 3)) (a3.heap.size) 3 #[.int .i64 u4,.int .i64 0,.int .i64 1,.int .i64 2,.int .i64 3,.int .i64 6,.int .i64 7,.int .i64 9,.int .i64 10] by rw[<-acd];exact Bk.new v4 _ _);have hal:=(ai v4.heap.size v4).alloc (ag _) (.cells #[.int .i64 u4,.int .i64 0,.int .i64 1,.int .i64 2,.int .i64 3,.int .i64 6,.int .i64 7,.int .i64 9,.int .i64 10] 3);have sN:=jP (HD4.1.below hal);have vJ:=jP (Ep.1.alloc (.cells #[.int .i64 u4,.int .i64 0,.int .i64 1,.int .i64 2,.int .i64 3,.int .i64 6,.int .i64 7,.int .i64 9,.int .i64 10] 3));clear hal HD4 Ep acd;refine (vU (xs:=[u4,0,1,2,3,6,7,9,10]) sN.1.src HRW.1 (by simp) (by simp)).mono ?_;rintro e a4 ⟨r4,hr,rfl,hs,ho⟩;have zg:=jP (sN.1.turn hs ho);obtain⟨cs,hcs⟩:=sN.1.src.bk;have o5:=jP (vJ.1.jS ho (by simpa using Bk.ne vJ.1 hcs (by decide)));simp only[aN,aZ,dw] at hr;have hub:=NG.1;have sK:=jP (show 0<=r4/\r4<=60 by omega);clear hr hub hs ho hcs cs HRW sN vJ NG;have HV5:=jP (show Bk (a4.setCell ⟨zu,4,none⟩ (.int .i64 r4)) zu 78 #[.int .i64 r0,.int .i64 r1,.int .i64 r2,.int .i64 r3,.int .i64 r4,.int .i64 u5] from o5.1.kM 4 (.int .i64 r4));have HD5:=jP (zg.1.KZ o5.1 ((jR.refl [zu] a4).setCell (p:=⟨zu,4,none⟩) (.inl (by simp)) (.int .i64 r4)) Ro.1 Rt.1);have yc:=o5.1.cell 4;have fc:=o5.1.frozen 4;have yn:=o5.1.cell 5;go_wp2_with fail
    clear yc fc zg o5 yn;have hsz5:(a4.setCell ⟨zu,4,none⟩ (.int .i64 r4)).heap.size=a4.heap.size:=gQ ..;generalize hvn:a4.setCell ⟨zu,4,none⟩ (.int .i64 r4)=v5 at *;clear hvn;have HRW:=jP (show Bk (v5.alloc (.cells #[.int .i64 u5,.int .i64 0,.int .i64 1,.int .i64 2,.int .i64 4] 3)) (a4.heap.size) 3 #[.int .i64 u5,.int .i64 0,.int .i64 1,.int .i64 2,.int .i64 4] by rw[<-hsz5];exact Bk.new v5 _ _);have hal:=(ai v5.heap.size v5).alloc (ag _) (.cells #[.int .i64 u5,.int .i64 0,.int .i64 1,.int .i64 2,.int .i64 4] 3);have sN:=jP (HD5.1.below hal);have vJ:=jP (HV5.1.alloc (.cells #[.int .i64 u5,.int .i64 0,.int .i64 1,.int .i64 2,.int .i64 4] 3));clear hal HD5 HV5 hsz5;refine (vU (xs:=[u5,0,1,2,4]) sN.1.src HRW.1 (by simp) (by simp)).mono ?_;rintro e a5 ⟨r5,hr,rfl,hs,ho⟩;have zg:=jP (sN.1.turn hs ho);obtain⟨cs,hcs⟩:=sN.1.src.bk;have o5:=jP (vJ.1.jS ho (by simpa using Bk.ne vJ.1 hcs (by decide)));simp only[aN,aZ,dw] at hr;have hub:=NF.1;have uj:=jP (show r5=0\/r5=1\/r5=2\/r5=4 by omega);clear hr hub hs ho hcs cs HRW sN vJ NF;have vY:=jP (show Bk (a5.setCell ⟨zu,5,none⟩ (.int .i64 r5)) zu 78 #[.int .i64 r0,.int .i64 r1,.int .i64 r2,.int .i64 r3,.int .i64 r4,.int .i64 r5] from o5.1.kM 5 (.int .i64 r5));have HD6:=jP (zg.1.KZ o5.1 ((jR.refl [zu] a5).setCell (p:=⟨zu,5,none⟩) (.inl (by simp)) (.int .i64 r5)) Ro.1 Rt.1);have yc:=o5.1.cell 5;have fc:=o5.1.frozen 5;have yn:=o5.1.cell 0;have hzl:=o5.1.lt;go_wp2_with fail
    clear yc fc zg o5 yn hzl;have Lm:(a5.setCell ⟨zu,5,none⟩ (.int .i64 r5)).heap.size=a5.heap.size:=gQ ..;generalize hvn:a5.setCell ⟨zu,5,none⟩ (.int .i64 r5)=v6 at *;clear hvn;have hal:=(ai v6.heap.size v6).alloc (ag _) (.cells #[.int .i64 c,.int .i64 c,.int .i64 0] 82);have Gi:=jP (HD6.1.below hal);have xK:=jP (vY.1.alloc (.cells #[.int .i64 c,.int .i64 c,.int .i64 0] 82));have HX0:=jP (show Bk (v6.alloc (.cells #[.int .i64 c,.int .i64 c,.int .i64 0] 82)) a5.heap.size 82 #[.int .i64 c,.int .i64 c,.int .i64 0] by rw[<-Lm];exact Bk.new v6 _ _);have NJ:=HW0;have NI:=HW1;have Bl:=HW2;have NH:=HW3;have NG:=sK;have NF:=uj;clear hal HD6 vY Lm HW0 HW1 HW2 HW3 sK uj Rt Ro;generalize v6.alloc (.cells #[.int .i64 c,.int .i64 c,.int .i64 0] 82)=v7 at *;refine (uJ Gi.1.tb (show 0<7 by omega) (by simp) (show (c0:List Rg.Sn).length<=1000 from aK (show (c0:List Rg.Sn).length<=k from HP.1.cat.len) (by omega)) c c 0 r0).mono ?_;rintro e v1 ⟨rfl,S1,bs1,ht,hbs,ho,hS⟩;rw[ad6] at ht;have HA1:=jP (Gi.1.col ht hbs ho (fun i hi=>hS i (by omega)));have Bj:=jP (xK.1.jS ho (by simpa using Bk.ne xK.1 Gi.1.tb.bx (by decide)));have qK:=jP (HX0.1.jS ho (by simpa using Bk.ne HX0.1 Gi.1.tb.bx (by decide)));clear ht hbs ho hS Gi xK HX0;have y0:=qK.1.cell 0;have y1:=qK.1.cell 1;have y2:=qK.1.cell 2;have yu:=Bj.1.cell 1;go_wp2_with fail
    refine (uJ HA1.1.tb (show 1<7 by omega) (by simp) (show (c1:List Rg.Sn).length<=1000 from aK (show (c1:List Rg.Sn).length<=k from HP.1.cls.len) (by omega)) c c 0 r1).mono ?_;rintro e v2 ⟨rfl,S2,ou,ht,hbs,ho,hS⟩;rw[ad5] at ht;have HA2:=jP (HA1.1.col ht hbs ho (fun i hi=>hS i (by omega)));have uk:=jP (Bj.1.jS ho (by simpa using Bk.ne Bj.1 HA1.1.tb.bx (by decide)));have lV:=jP (qK.1.jS ho (by simpa using Bk.ne qK.1 HA1.1.tb.bx (by decide)));clear ht hbs ho hS HA1 Bj qK y0 y1 y2 yu;have y0:=lV.1.cell 0;have y1:=lV.1.cell 1;have y2:=lV.1.cell 2;have yu:=uk.1.cell 2;go_wp2_with fail
    refine (uJ HA2.1.tb (show 2<7 by omega) (by simp) (show (c2:List Rg.Sn).length<=1000 from aK (show (c2:List Rg.Sn).length<=k from HP.1.ku.len) (by omega)) c c 0 r2).mono ?_;rintro e v3 ⟨rfl,S3,bs3,ht,hbs,ho,hS⟩;rw[ad4] at ht;have CG:=jP (HA2.1.col ht hbs ho (fun i hi=>hS i (by omega)));have Cc:=jP (uk.1.jS ho (by simpa using Bk.ne uk.1 HA2.1.tb.bx (by decide)));have lM:=jP (lV.1.jS ho (by simpa using Bk.ne lV.1 HA2.1.tb.bx (by decide)));clear ht hbs ho hS HA2 uk lV y0 y1 y2 yu;have y0:=lM.1.cell 0;have y1:=lM.1.cell 1;have y2:=lM.1.cell 2;have yu:=Cc.1.cell 3;go_wp2_with fail
    refine (uJ CG.1.tb (show 3<7 by omega) (by simp) (show (c3:List Rg.Sn).length<=1000 from aK (show (c3:List Rg.Sn).length<=k from HP.1.jX.len) (by omega)) c c 0 r3).mono ?_;rintro e v4 ⟨rfl,S4,bs4,ht,hbs,ho,hS⟩;rw[ad3] at ht;have Gh:=jP (CG.1.col ht hbs ho (fun i hi=>hS i (by omega)));have Ep:=jP (Cc.1.jS ho (by simpa using Bk.ne Cc.1 CG.1.tb.bx (by decide)));have nM:=jP (lM.1.jS ho (by simpa using Bk.ne lM.1 CG.1.tb.bx (by decide)));clear ht hbs ho hS CG Cc lM y0 y1 y2 yu;have y0:=nM.1.cell 0;have y1:=nM.1.cell 1;have y2:=nM.1.cell 2;have yu:=Ep.1.cell 4;go_wp2_with fail
    refine (uJ Gh.1.tb (show 4<7 by omega) (by simp) (show (c4:List Rg.Sn).length<=1000 from aK (show (c4:List Rg.Sn).length<=k from HP.1.scr.len) (by omega)) c c 0 r4).mono ?_;rintro e v5 ⟨rfl,S5,bs5,ht,hbs,ho,hS⟩;rw[ad2] at ht;have uO:=jP (Gh.1.col ht hbs ho (fun i hi=>hS i (by omega)));have HV5:=jP (Ep.1.jS ho (by simpa using Bk.ne Ep.1 Gh.1.tb.bx (by decide)));have ug:=jP (nM.1.jS ho (by simpa using Bk.ne nM.1 Gh.1.tb.bx (by decide)));clear ht hbs ho hS Gh Ep nM y0 y1 y2 yu;have y0:=ug.1.cell 0;have y1:=ug.1.cell 1;have y2:=ug.1.cell 2;have TN:=HV5.1.cell 5;by_cases D7:c=173
    ·have hcb:(c==173)=true:=by simpa using D7
     clear D7;go_wp2_with fail
     refine (uJ uO.1.tb (show 6<7 by omega) (by simp) (show (c6:List Rg.Sn).length<=1000 from aK (show (c6:List Rg.Sn).length<=k from HP.1.jW.len) (by omega)) c c 0 1).mono ?_;rintro e v6 ⟨rfl,S6,FD,ht,hbs,ho,hS⟩;rw[Xx] at ht;have BH:=jP (uO.1.col ht hbs ho (fun i hi=>hS i (by omega)));have vY:=jP (HV5.1.jS ho (by simpa using Bk.ne HV5.1 uO.1.tb.bx (by decide)));clear ht hbs ho hS uO HV5 y0 y1 y2 TN;have yu6:=vY.1.cell 5;have hlp:=BH.1.pool.lt;go_wp2_with (at_builtin;refine kW (by rfl) _ _ rfl (base:=bp+1) (xs:=st) rfl (BH.1.row.alloc _) rfl (kG (z:=v6.heap.size) rfl r5) (by omega) (by simp<;>omega) ?_)
     intro A9 c9 w9 ni nJ zG;have lQ:=jP (BH.1.below ((ai _ _).alloc (ag _) (.cells #[.int .i64 r5] 3)));have nD:∀ q∈jT A9,q∈jT A2\/(v6.alloc (.cells #[.int .i64 r5] 3)).heap.size<=q:=by
      intro q hq;cases A9 with
      | none=>simp[jT] at hq
      | some a=>
       simp[jT] at hq;subst hq;rcases zG with e | e
       ·cases A2 with
        | none=>cases e
        | some a'=>
         simp[Value.ownBlock] at e;exact .inl (by simp[jT,e])
       ·simp[Value.ownBlock] at e;exact .inr (by simp;omega)
     have Kz:=jP (lQ.1.stat ni nJ nD);have Ci:=jP (show C_ (k+1) (st++[r5]) (qQ (oz c0 ⟨c,c,r0⟩) (oz c1 ⟨c,c,r1⟩) (oz c2 ⟨c,c,r2⟩) (oz c3 ⟨c,c,r3⟩) (oz c4 ⟨c,c,r4⟩) [] (oz c6 ⟨c,c,1⟩)) from
      ⟨HP.1.cat.ad HC.1 (fun h=>by omega) NJ.1.2,HP.1.cls.ad HC.1 (fun h=>by omega) NI.1.2,HP.1.ku.ad HC.1 (fun h=>by omega) Bl.1.2,HP.1.jX.ad HC.1 (fun h=>by omega) NH.1.2,HP.1.scr.ad HC.1 (fun h=>by omega) NG.1.2,
       HP.1.jW.ad (v:=1) HC.1 (fun _=>by omega) (by omega),rfl,rfl,rfl,rfl,rfl,rfl,by rw[aA,HP.1.len];rfl,fun z hz=>by
        rcases aO.1 hz with h | h
        ·exact HP.1.va z h
        ·rw[aB.1 h];exact NF.1⟩)
     clear ni nJ zG nD lQ hlp;go_wp2_with fail
     go_roundw
     case rel=>exact⟨k+1,A9,c9,st++[r5],S6,_,_,_,_,_,_,FD,by omega,by go_num,rfl,Kz.1,Ci.1⟩
     case measure=>simp only[intOf]<;>omega
    ·have hcb:(c==173)=false:=by simpa using D7
     clear D7;go_wp2_with fail
     refine (lK uO.1.src 12 (by omega) (by omega)).mono ?_;rintro e v5n ⟨q,rfl,q0,q1,hs,ho⟩;obtain⟨cs,hcs⟩:=uO.1.src.bk;have ajl:=jP (uO.1.turn hs ho);have aim:=jP (HV5.1.jS ho (by simpa using Bk.ne HV5.1 hcs (by decide)));have aii:=jP (ug.1.jS ho (by simpa using Bk.ne ug.1 hcs (by decide)));clear hs ho hcs cs y0 y1 y2 TN uO HV5 ug;have uO:=ajl;have HV5:=aim;have ug:=aii;clear ajl aim aii;have y0:=ug.1.cell 0;have y1:=ug.1.cell 1;have y2:=ug.1.cell 2;have TN:=HV5.1.cell 5;by_cases hq:q=0
     ·subst hq;go_wp2_with fail
      refine (uJ uO.1.tb (show 6<7 by omega) (by simp) (show (c6:List Rg.Sn).length<=1000 from aK (show (c6:List Rg.Sn).length<=k from HP.1.jW.len) (by omega)) c c 0 1).mono ?_;rintro e v6 ⟨rfl,S6,FD,ht,hbs,ho,hS⟩;rw[Xx] at ht;have BH:=jP (uO.1.col ht hbs ho (fun i hi=>hS i (by omega)));have vY:=jP (HV5.1.jS ho (by simpa using Bk.ne HV5.1 uO.1.tb.bx (by decide)));clear ht hbs ho hS uO HV5 y0 y1 y2 TN;have yu6:=vY.1.cell 5;have hlp:=BH.1.pool.lt;go_wp2_with (at_builtin;refine kW (by rfl) _ _ rfl (base:=bp+1) (xs:=st) rfl (BH.1.row.alloc _) rfl (kG (z:=v6.heap.size) rfl r5) (by omega) (by simp<;>omega) ?_)
      intro A9 c9 w9 ni nJ zG;have lQ:=jP (BH.1.below ((ai _ _).alloc (ag _) (.cells #[.int .i64 r5] 3)));have nD:∀ q∈jT A9,q∈jT A2\/(v6.alloc (.cells #[.int .i64 r5] 3)).heap.size<=q:=by
       intro q hq;cases A9 with
       | none=>simp[jT] at hq
       | some a=>
        simp[jT] at hq;subst hq;rcases zG with e | e
        ·cases A2 with
         | none=>cases e
         | some a'=>
          simp[Value.ownBlock] at e;exact .inl (by simp[jT,e])
        ·simp[Value.ownBlock] at e;exact .inr (by simp;omega)
      have Kz:=jP (lQ.1.stat ni nJ nD);have Ci:=jP (show C_ (k+1) (st++[r5]) (qQ (oz c0 ⟨c,c,r0⟩) (oz c1 ⟨c,c,r1⟩) (oz c2 ⟨c,c,r2⟩) (oz c3 ⟨c,c,r3⟩) (oz c4 ⟨c,c,r4⟩) [] (oz c6 ⟨c,c,1⟩)) from
       ⟨HP.1.cat.ad HC.1 (fun h=>by omega) NJ.1.2,HP.1.cls.ad HC.1 (fun h=>by omega) NI.1.2,HP.1.ku.ad HC.1 (fun h=>by omega) Bl.1.2,HP.1.jX.ad HC.1 (fun h=>by omega) NH.1.2,HP.1.scr.ad HC.1 (fun h=>by omega) NG.1.2,
        HP.1.jW.ad (v:=1) HC.1 (fun _=>by omega) (by omega),rfl,rfl,rfl,rfl,rfl,rfl,by rw[aA,HP.1.len];rfl,fun z hz=>by
         rcases aO.1 hz with h | h
         ·exact HP.1.va z h
         ·rw[aB.1 h];exact NF.1⟩)
      clear ni nJ zG nD lQ hlp;go_wp2_with fail
      go_roundw
      case rel=>exact⟨k+1,A9,c9,st++[r5],S6,_,_,_,_,_,_,FD,by omega,by go_num,rfl,Kz.1,Ci.1⟩
      case measure=>simp only[intOf]<;>omega
     ·have AQ:(q==0)=false:=by simpa using hq
      clear hq q0 q1;have hlp:=uO.1.pool.lt;go_wp2_with (at_builtin;refine kW (by rfl) _ _ rfl (base:=bp+1) (xs:=st) rfl (uO.1.row.alloc _) rfl (kG (z:=v5n.heap.size) rfl r5) (by omega) (by simp<;>omega) ?_)
      intro A9 c9 w9 ni nJ zG;have lQ:=jP (uO.1.below ((ai _ _).alloc (ag _) (.cells #[.int .i64 r5] 3)));have nD:∀ q∈jT A9,q∈jT A2\/(v5n.alloc (.cells #[.int .i64 r5] 3)).heap.size<=q:=by
       intro q hq;cases A9 with
       | none=>simp[jT] at hq
       | some a=>
        simp[jT] at hq;subst hq;rcases zG with e | e
        ·cases A2 with
         | none=>cases e
         | some a'=>
          simp[Value.ownBlock] at e;exact .inl (by simp[jT,e])
        ·simp[Value.ownBlock] at e;exact .inr (by simp;omega)
      have Kz:=jP (lQ.1.stat ni nJ nD);have Ci:=jP (show C_ (k+1) (st++[r5]) (qQ (oz c0 ⟨c,c,r0⟩) (oz c1 ⟨c,c,r1⟩) (oz c2 ⟨c,c,r2⟩) (oz c3 ⟨c,c,r3⟩) (oz c4 ⟨c,c,r4⟩) [] c6) from
       ⟨HP.1.cat.ad HC.1 (fun h=>by omega) NJ.1.2,HP.1.cls.ad HC.1 (fun h=>by omega) NI.1.2,HP.1.ku.ad HC.1 (fun h=>by omega) Bl.1.2,HP.1.jX.ad HC.1 (fun h=>by omega) NH.1.2,HP.1.scr.ad HC.1 (fun h=>by omega) NG.1.2,
        HP.1.jW.mono,rfl,rfl,rfl,rfl,rfl,rfl,by rw[aA,HP.1.len];rfl,fun z hz=>by
         rcases aO.1 hz with h | h
         ·exact HP.1.va z h
         ·rw[aB.1 h];exact NF.1⟩)
      clear ni nJ zG nD lQ hlp;go_wp2_with fail
      go_roundw
      case rel=>exact⟨k+1,A9,c9,st++[r5],S5,_,_,_,_,_,_,bs5,by omega,by go_num,rfl,Kz.1,Ci.1⟩
      case measure=>simp only[intOf]<;>omega
  ·obtain rfl:k=28:=by omega
   obtain⟨q0,hA2⟩:=DT HL.1.row (by omega);subst hA2;have HQ:=jP (HL.1.oI q0 (by simp[jT]));have FZ:=jP (show g<gt/\gt<bp/\wz.heap.size<=g from ⟨HL.1.lt,HL.1.lp,HL.1.gW⟩);go_wp2_with fail
   refine (ZY HL.1.src HL.1.tb HL.1.ng HL.1.lt (HL.1.nil_ 9 (by omega)) (HL.1.nil_ 10 (by omega))).mono ?_;rintro e w6 ⟨rfl,S6,d,ex,FD,ht6,hb6,hs6,kT,hp6,hS6⟩;have vZ:=jP ht6;have o6:=jP hs6;have HPD:=jP hp6;have HF6:=jP hS6;have Cf:=jP (qF HL.1.row kT (fun q hq=>by
    simp[jT] at hq;have:=HQ.1;have:=FZ.1;simp;omega))
   have qx:=jP (show g∉FD/\q0∉FD from ⟨fun hm=>by
    rcases hb6 g hm with e | e
    ·exact HL.1.ng e
    ·have:=HL.1.src.lt;omega,fun hm=>by
    rcases hb6 q0 hm with e | e
    ·exact HL.1.nr q0 (by simp[jT]) e
    ·have:=HQ.1;omega⟩)
   have Ic:=jP (show ∀ q∈FD,wz.heap.size<=q from fun q hq=>(hb6 q hq).elim (HL.1.bg q) (fun e=>aK HL.1.bl.size e));have HL6:=jP (show Below wz.heap.size wz w6 from kT.fresh HL.1.bl (fun q hq=>by
    have:=FZ.1;simp at hq;omega) HL.1.bl.size)
   have nG:=jP (show q0<w6.heap.size from aG HQ.1.2 kT.size);have Bv:=jP (fun i (hi:7<=i) (h9:i≠9) (h10:i≠10)=>(hS6 i h9 h10).trans (HL.1.nil_ i hi));clear ht6 hb6 hs6 kT hp6 hS6 HL;go_wp2_with fail
   refine (ag0 (base:=bp+1) o6.1 vZ.1 qx.1.1 FZ.1.1 (by have:=HQ.1;have:=FZ.1;omega) qx.1.2 (Bv.1 8 (by omega) (by omega) (by omega)) rfl Cf.1 HP.1.va).mono ?_;rintro e w7 ⟨rfl,S7,l,mp,bs7,ht7,hb7,hs7,mG,hp7,hS7⟩;have NK:=jP ht7;have HS7:=jP hs7;have HPM:=jP hp7;have RS:=jP (show g∉bs7 from fun hm=>by
    rcases hb7 g hm with e | e
    ·exact qx.1.1 e
    ·have:=o6.1.lt;omega)
   have HG7:=jP (show ∀ q∈bs7,wz.heap.size<=q from fun q hq=>(hb7 q hq).elim (Ic.1 q) (fun e=>aK HL6.1.size e));have HL7:=jP (show Below wz.heap.size wz w7 from mG.fresh HL6.1 (fun q hq=>by
    have:=FZ.1;have:=HQ.1;simp at hq;omega) HL6.1.size)
   have aiT:=jP (show S7 11=Sl.z from (hS7 11 (by omega) (by omega)).trans (Bv.1 11 (by omega) (by omega) (by omega)));clear ht7 hb7 hs7 mG hp7 hS7 vZ o6 qx Ic HL6 Cf nG Bv HF6;go_wp2_with fail
   refine (O_ HS7.1 NK.1 RS.1 FZ.1.1 aiT.1 (show (c6:List Rg.Sn).length<=28 from HP.1.jW.len)).mono ?_;rintro e w8 ⟨rfl,S8,pr,bs8,ht8,hb8,hs8,oZ,hp8,Dl⟩;have qL:=jP ht8;have uM:=jP hs8;have Dx:=jP hp8;have H_:=jP (show g∉bs8 from fun hm=>by
    rcases hb8 g hm with e | e
    ·exact RS.1 e
    ·have:=HS7.1.lt;omega)
   have HG8:=jP (show ∀ q∈bs8,wz.heap.size<=q from fun q hq=>(hb8 q hq).elim (HG7.1 q) (fun e=>aK HL7.1.size e));have HL8:=jP (show Below wz.heap.size wz w8 from oZ.fresh HL7.1 (fun q hq=>by
    have:=FZ.1;simp at hq;omega) HL7.1.size)
   clear ht8 hb8 hs8 oZ hp8 Dl NK HS7 RS HG7 HL7 aiT;go_wp2_with fail
   refine (lK uM.1 2 (by omega) (by omega)).mono ?_;rintro e w9 ⟨r9,rfl,_,_,hs9,ni⟩;have Rz:=jP (qL.1.jS ni (fun q hq hm=>H_.1 (by rw[<-aB.1 hm];exact hq)) (by have:=FZ.1;simp;omega));have oO:=jP (nC.past ni HL8.1 FZ.1.2.2);clear hs9 ni qL uM HL8 H_;by_cases hr9:r9=0
   ·subst hr9;obtain⟨hcz,hfz⟩:=Rz.1.cell (k:=7) (by omega);have ahu:gt<w9.heap.size:=Rz.1.bx.lt;have XA:=jP (Rz.1.ext 7 8 12539);have FU:=jP (show Bk (((w9.alloc (.cells #[.int .i64 7,.int .i64 8] 3)).alloc (.cells #[.int .i64 12539,.slice (some ⟨w9.heap.size,0,none⟩) 2 2] 89)).setCell ⟨gt,7,none⟩ (.slice (some ⟨w9.heap.size+1,0,none⟩) 1 1)) w.heap.size 26 z12 from
     ((((HRX.1.below oO.1 HRX.1.lt).alloc _).alloc _).far (p:=⟨gt,7,none⟩) (by have:=FZ.1;have:=HWZ.1;show w.heap.size≠gt;omega) _))
    have XJ:=jP (((oO.1.trans ((mP w9 (.cells #[.int .i64 7,.int .i64 8] 3) (.cells #[.int .i64 12539,.slice (some ⟨w9.heap.size,0,none⟩) 2 2] 89)).mono oO.1.size))).setCell (p:=⟨gt,7,none⟩) (by have:=FZ.1;show wz.heap.size<=gt;omega) (.slice (some ⟨w9.heap.size+1,0,none⟩) 1 1));have HBG:=jP (show ∀ q∈bs8++(jT (some ⟨w9.heap.size+1,0,none⟩)++[w9.heap.size]),wz.heap.size<=q from fun q hq=>by
     rcases aO.1 hq with e | e
     ·exact HG8.1 q e
     ·have:=oO.1.size;simp[jT] at e;omega)
    have heq:(((w9.alloc (.cells #[.int .i64 7,.int .i64 8] 3)).alloc (.cells #[.int .i64 12539,.slice (some ⟨w9.heap.size,0,none⟩) 2 2] 89)).setCell ⟨gt,7,none⟩ (.slice (some ⟨w9.heap.size+1,0,none⟩) 1 1))=(((w9.setCell ⟨gt,7,none⟩ (.slice (some ⟨w9.heap.size+1,0,none⟩) 1 1)).alloc (.cells #[.int .i64 7,.int .i64 8] 3)).alloc (.cells #[.int .i64 12539,.slice (some ⟨w9.heap.size,0,none⟩) 2 2] 89)):=by rw[World.setCell_alloc_past _ _ _ _ (by simp;omega),World.setCell_alloc_past _ _ _ _ ahu]
    rw[heq] at XA FU XJ;clear heq;go_upto_region 32 with (fail)
    generalize W_:(((w9.setCell ⟨gt,7,none⟩ (.slice (some ⟨w9.heap.size+1,0,none⟩) 1 1)).alloc (.cells #[.int .i64 7,.int .i64 8] 3)).alloc (.cells #[.int .i64 12539,.slice (some ⟨w9.heap.size,0,none⟩) 2 2] 89))=w10 at *;clear W_;clear hcz hfz ahu Rz oO HG8;have lQ:=jP (XA.1.bx);have Si:=jP (XA.1.all (UZ (e:=ex) HP.1 HPD.1 HPM.1 Dx.1 (.inr rfl)));have BA:=jP (XA.1.lt);generalize wG _=V9 at *;obtain⟨x0,x1,x2,x3,x4,x5,x6,x7,x8,x9,x10,x11⟩:=rD lQ.1;have y0:=fun i=>FU.1.cell i;have f0:=fun i=>FU.1.frozen i;have HE:=jP (VW (show Bk _ w.heap.size 26 #[.slice none 0 0,.slice none 0 0,.slice none 0 0,.slice none 0 0,.slice none 0 0,.slice none 0 0,.slice none 0 0,.slice none 0 0,.slice none 0 0,.slice none 0 0,.slice none 0 0,.slice none 0 0] from FU.1) (.slice V9.cat.A V9.cat.n V9.cat.c) (.slice V9.cls.A V9.cls.n V9.cls.c) (.slice V9.ku.A V9.ku.n V9.ku.c) (.slice V9.jX.A V9.jX.n V9.jX.c) (.slice V9.scr.A V9.scr.n V9.scr.c) (.slice V9.jU.A V9.jU.n V9.jU.c) (.slice V9.jW.A V9.jW.n V9.jW.c) (.slice V9.ext.A V9.ext.n V9.ext.c) (.slice V9.maps.A V9.maps.n V9.maps.c) (.slice V9.dec.A V9.dec.n V9.dec.c) (.slice V9.exc.A V9.exc.n V9.exc.c) (.slice V9.jY.A V9.jY.n V9.jY.c));have zN:=jP (LU (xO.1.trans (XJ.1.mono xO.1.size)) (ag _) (.slice V9.cat.A V9.cat.n V9.cat.c) (.slice V9.cls.A V9.cls.n V9.cls.c) (.slice V9.ku.A V9.ku.n V9.ku.c) (.slice V9.jX.A V9.jX.n V9.jX.c) (.slice V9.scr.A V9.scr.n V9.scr.c) (.slice V9.jU.A V9.jU.n V9.jU.c) (.slice V9.jW.A V9.jW.n V9.jW.c) (.slice V9.ext.A V9.ext.n V9.ext.c) (.slice V9.maps.A V9.maps.n V9.maps.c) (.slice V9.dec.A V9.dec.n V9.dec.c) (.slice V9.exc.A V9.exc.n V9.exc.c) (.slice V9.jY.A V9.jY.n V9.jY.c));have HAG:=jP (ade (x:=w10) (lo:=w.heap.size+1) (hi:=w10.heap.size) (g:=w.heap.size) (by omega) (.slice V9.cat.A V9.cat.n V9.cat.c) (.slice V9.cls.A V9.cls.n V9.cls.c) (.slice V9.ku.A V9.ku.n V9.ku.c) (.slice V9.jX.A V9.jX.n V9.jX.c) (.slice V9.scr.A V9.scr.n V9.scr.c) (.slice V9.jU.A V9.jU.n V9.jU.c) (.slice V9.jW.A V9.jW.n V9.jW.c) (.slice V9.ext.A V9.ext.n V9.ext.c) (.slice V9.maps.A V9.maps.n V9.maps.c) (.slice V9.dec.A V9.dec.n V9.dec.c) (.slice V9.exc.A V9.exc.n V9.exc.c) (.slice V9.jY.A V9.jY.n V9.jY.c));go_wp2_with fail
    have hsf:=Jh (x:=w10) (g:=w.heap.size) (.slice V9.cat.A V9.cat.n V9.cat.c) (.slice V9.cls.A V9.cls.n V9.cls.c) (.slice V9.ku.A V9.ku.n V9.ku.c) (.slice V9.jX.A V9.jX.n V9.jX.c) (.slice V9.scr.A V9.scr.n V9.scr.c) (.slice V9.jU.A V9.jU.n V9.jU.c) (.slice V9.jW.A V9.jW.n V9.jW.c) (.slice V9.ext.A V9.ext.n V9.ext.c) (.slice V9.maps.A V9.maps.n V9.maps.c) (.slice V9.dec.A V9.dec.n V9.dec.c) (.slice V9.exc.A V9.exc.n V9.exc.c) (.slice V9.jY.A V9.jY.n V9.jY.c);refine aS (fP (P:=Tryz.prog) (p:=2) (ty:=26) rfl _ _ w.heap.size _ _ _ _ rfl HE.1 Tryz.underlying26 rfl (by kernel_rfl)) rfl ?_;refine⟨V9,_,rfl,Si.1 _ (fun q hq=>HAG.1 q (by have:=HBG.1 q hq;rw[HWZ.1] at this;exact this) (BA.1 q hq)) (by rw[hsf];exact ag _) ((pV.1.below zN.1).more zN.1.size),zN.1⟩
   ·have hrb:(r9==0)=false:=by simpa using hr9
    clear hr9;have FU:=jP (HRX.1.below oO.1 HRX.1.lt);have XJ:=jP oO.1;have HBG:=jP HG8.1;clear oO HG8;have lQ:=jP (Rz.1.bx);have Si:=jP (Rz.1.all (UZ (e:=ex) HP.1 HPD.1 HPM.1 Dx.1 (.inl rfl)));have BA:=jP (Rz.1.lt);generalize wG _=V9 at *;obtain⟨x0,x1,x2,x3,x4,x5,x6,x7,x8,x9,x10,x11⟩:=rD lQ.1;have y0:=fun i=>FU.1.cell i;have f0:=fun i=>FU.1.frozen i;have HE:=jP (VW (show Bk _ w.heap.size 26 #[.slice none 0 0,.slice none 0 0,.slice none 0 0,.slice none 0 0,.slice none 0 0,.slice none 0 0,.slice none 0 0,.slice none 0 0,.slice none 0 0,.slice none 0 0,.slice none 0 0,.slice none 0 0] from FU.1) (.slice V9.cat.A V9.cat.n V9.cat.c) (.slice V9.cls.A V9.cls.n V9.cls.c) (.slice V9.ku.A V9.ku.n V9.ku.c) (.slice V9.jX.A V9.jX.n V9.jX.c) (.slice V9.scr.A V9.scr.n V9.scr.c) (.slice V9.jU.A V9.jU.n V9.jU.c) (.slice V9.jW.A V9.jW.n V9.jW.c) (.slice V9.ext.A V9.ext.n V9.ext.c) (.slice V9.maps.A V9.maps.n V9.maps.c) (.slice V9.dec.A V9.dec.n V9.dec.c) (.slice V9.exc.A V9.exc.n V9.exc.c) (.slice V9.jY.A V9.jY.n V9.jY.c));have zN:=jP (LU (xO.1.trans (XJ.1.mono xO.1.size)) (ag _) (.slice V9.cat.A V9.cat.n V9.cat.c) (.slice V9.cls.A V9.cls.n V9.cls.c) (.slice V9.ku.A V9.ku.n V9.ku.c) (.slice V9.jX.A V9.jX.n V9.jX.c) (.slice V9.scr.A V9.scr.n V9.scr.c) (.slice V9.jU.A V9.jU.n V9.jU.c) (.slice V9.jW.A V9.jW.n V9.jW.c) (.slice V9.ext.A V9.ext.n V9.ext.c) (.slice V9.maps.A V9.maps.n V9.maps.c) (.slice V9.dec.A V9.dec.n V9.dec.c) (.slice V9.exc.A V9.exc.n V9.exc.c) (.slice V9.jY.A V9.jY.n V9.jY.c));have HAG:=jP (ade (x:=w9) (lo:=w.heap.size+1) (hi:=w9.heap.size) (g:=w.heap.size) (by omega) (.slice V9.cat.A V9.cat.n V9.cat.c) (.slice V9.cls.A V9.cls.n V9.cls.c) (.slice V9.ku.A V9.ku.n V9.ku.c) (.slice V9.jX.A V9.jX.n V9.jX.c) (.slice V9.scr.A V9.scr.n V9.scr.c) (.slice V9.jU.A V9.jU.n V9.jU.c) (.slice V9.jW.A V9.jW.n V9.jW.c) (.slice V9.ext.A V9.ext.n V9.ext.c) (.slice V9.maps.A V9.maps.n V9.maps.c) (.slice V9.dec.A V9.dec.n V9.dec.c) (.slice V9.exc.A V9.exc.n V9.exc.c) (.slice V9.jY.A V9.jY.n V9.jY.c));go_wp2_with fail
    have hsf:=Jh (x:=w9) (g:=w.heap.size) (.slice V9.cat.A V9.cat.n V9.cat.c) (.slice V9.cls.A V9.cls.n V9.cls.c) (.slice V9.ku.A V9.ku.n V9.ku.c) (.slice V9.jX.A V9.jX.n V9.jX.c) (.slice V9.scr.A V9.scr.n V9.scr.c) (.slice V9.jU.A V9.jU.n V9.jU.c) (.slice V9.jW.A V9.jW.n V9.jW.c) (.slice V9.ext.A V9.ext.n V9.ext.c) (.slice V9.maps.A V9.maps.n V9.maps.c) (.slice V9.dec.A V9.dec.n V9.dec.c) (.slice V9.exc.A V9.exc.n V9.exc.c) (.slice V9.jY.A V9.jY.n V9.jY.c);refine aS (fP (P:=Tryz.prog) (p:=2) (ty:=26) rfl _ _ w.heap.size _ _ _ _ rfl HE.1 Tryz.underlying26 rfl (by kernel_rfl)) rfl ?_;refine⟨V9,_,rfl,Si.1 _ (fun q hq=>HAG.1 q (by have:=HBG.1 q hq;rw[HWZ.1] at this;exact this) (BA.1 q hq)) (by rw[hsf];exact ag _) ((pV.1.below zN.1).more zN.1.size),zN.1⟩
theorem X3:Rh:=fun w A n c B xs hr hB hn hb=>SI hr hB hn hb
end Go.Proofs.YtkachcflifhgiaaGreatDoor
