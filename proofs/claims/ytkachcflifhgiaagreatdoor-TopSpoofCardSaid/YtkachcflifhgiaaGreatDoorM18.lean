/-      -/
import Derived.Test.YtkachcflifhgiaaGreatDoorM17
import Derived.Deep.AppendLies
import Derived.Test.YtkachcflifhgiaaGreatDoorM04
set_option linter.unusedVariables false
set_option maxRecDepth 100000
set_option maxHeartbeats 16000000
namespace Go.Proofs.YtkachcflifhgiaaGreatDoor
open Go Go.RowKit Go.Shelf Go.Proofs
section
variable {w:World} {B:Nat} {V:TV} {T:Gm.Tab}
theorem ZX (h:j_ w B V T)(hB:B<=w.heap.size)(A:Option Addr)(n c:Nat)(l:List Int)(hr:Rd w B 1 A n (ints l))(hn:n<=100000) :
  Calls Tryz.prog 198 #[kF V,.slice A n c] w (vG 3 (Gm.n_ T l) w):=by
 have F0:=jP (Fr.start h hB);have HL:=jP (lY hr);have HR0:=jP (hr.alloc hB (.cells (kK V) 26));have HN:=jP (show Gm.n_ T l=Gm.sort T (l.flatMap (Gm.oV T)) from rfl);clear h hB hr;generalize Gm.n_ T l=nf at *;go_enter Tryz.func198,Tryz.ntmps198
 go_wp2_with fail
 generalize hw1:w.alloc (.cells (kK V) 26)=w1 at *;have hz1:w1.heap.size=w.heap.size+1:=by rw[<-hw1];simp
 have HZ:=jP hz1;clear hw1 hz1;go_loopw [5,10] (fun vo vi wr=>∃ (k m:Nat) (A4:Option Addr) (c4:Nat),k<=n/\vi=.int .i64 k/\vo=.slice A4 m c4/\m=(Gm.fl T l k).length/\wr.ownsRow (w.heap.size+1) 3 1 (.slice A4 m c4) m (ints (Gm.fl T l k))/\Below (w.heap.size+1) w1 wr) (fun _ vi _=>n-(intOf vi).toNat)
 case atStart=>exact⟨0,0,none,0,by omega,rfl,rfl,rfl,aH _ _ _ _,ai _ _⟩
 case round=>
  obtain⟨k,m,A4,c4,hk,rfl,rfl,hm,ho,hb⟩:=hrel;have HM:=jP hm;have HO:=jP ho;have HI:=jP hb;have F2:=jP (F0.1.wK hb (ag _));clear hm ho hb;have hfl:=Gm.JS F2.1.tb.good l k;have hm9:m<=600000:=by have:=HM.1;omega
  by_cases hlt:k<n
  ·obtain⟨b,off,d,rfl,hbB,hat,hcell⟩:=jZ (HR0.1.below (HI.1.mono (by have:=F0.1.hB;omega))) hlt;have HFS:=jP (Gm.Ls (T:=T) hat);have HE:=jP (Xi 6 d (by have:=Gm.wL d;omega) A4 c4 (Gm.fl T l k) (w.heap.size+1) wr F2.1.tb (by have:=F0.1.hB;omega) F2.1.sz (by rw[<-HM.1];exact HO.1) (by omega));rw[<-HM.1,<-HFS.1] at HE;generalize hl5:(Gm.fl T l (k+1)).length=m5 at HE;have Et:=jP hl5;obtain⟨x0,x1,x2,x3,x4,x5,x6,x7,x8,x9,x10,x11⟩:=F2.1.cells;clear hat hl5 hfl;go_wp2_with fail
   clear x0 x1 x2 x3 x4 x5 x6 x7 x8 x9 x10 x11 hcell;refine HE.1.mono ?_;unfold Xy;rw[Et.1];rintro e w5 ⟨A5,c5,rfl,oK,Zn⟩;have lD:=jP oK;have kY:=jP (HI.1.trans (Zn.below F2.1.sz (pg HO.1)));clear oK Zn;go_wp2_with fail
   go_roundw
   case rel=>exact⟨k+1,m5,A5,c5,by omega,by go_num,rfl,Et.1.symm,lD.1,kY.1⟩
   case measure=>simp[intOf];omega
  ·obtain rfl:k=n:=by omega
   have hfe:Gm.fl T l k=l.flatMap (Gm.oV T):=by unfold Gm.fl;rw[aP (by have:=HL.1;omega)]
   have kT:=HO.1;rw[hfe] at kT;have lI:=jP kT;have HFE:=jP hfe;obtain⟨x0,x1,x2,x3,x4,x5,x6,x7,x8,x9,x10,x11⟩:=F2.1.cells;clear kT hfe hfl;go_wp2_with fail
   clear x0 x1 x2 x3 x4 x5 x6 x7 x8 x9 x10 x11;have F3:=jP (F2.1.tb.more F2.1.hx);refine (OI F3.1 (ag _) A4 m c4 _ (Rd.kX lI.1) (by omega)).mono ?_;rintro e w5 ⟨A5,c5,rfl,oK,hb5⟩;have lD:=jP (lH oK (show w.heap.size<=wr.heap.size by have:=F2.1.sz;omega));have nS:=jP (F2.1.bl.trans (hb5.mono (by have:=F2.1.sz;omega)));clear oK hb5;go_wp2_with fail
   go_ret
   rw[HN.1];exact⟨A5,c5,rfl,lD.1,nS.1⟩
theorem Gm.Tt {T:Gm.Tab}(hT:Gm.Good T)(l:List Int):(Gm.n_ T l).length<=6*l.length:=by
 unfold Gm.n_;rw[Gm.Ob];have:=Gm.JS hT l l.length;unfold Gm.fl at this;rwa [gJ] at this
theorem Gm.Iz {l:List Int}(h:Gm.kE l=0):l.length<=4096:=by
 unfold Gm.kE at h;split at h
 ·cases h
 ·omega
theorem La (h:j_ w B V T)(hB:B<=w.heap.size)(A:Option Addr)(n c:Nat)(l:List Int)(hr:Rd w B 1 A n (ints l))(hn:n<=1000000) :
  Calls Tryz.prog 139 #[kF V,.slice A n c] w (Cb 3 (Gm.oW T l).1 [.int .i64 (Gm.oW T l).2] w):=by
 have F0:=jP (Fr.start h hB);have HR0:=jP (hr.alloc hB (.cells (kK V) 26));have HL:=jP (lY hr);have HN:=jP (show Gm.oW T l=if Gm.kE l≠0 then ([],Gm.kE l) else if 4096<(Gm.n_ T l).length then ([],7) else (Gm.n_ T l,0) from rfl);have HO:=jP (show (Gm.order T l).2=Gm.kE l by unfold Gm.order;split<;>simp_all);clear h hB hr;generalize Gm.oW T l=nf at *;obtain⟨x0,x1,x2,x3,x4,x5,x6,x7,x8,x9,x10,x11⟩:=F0.1.cells;go_enter Tryz.func139,Tryz.ntmps139
 go_wp2_with fail
 clear x0 x1 x2 x3 x4 x5 x6 x7 x8 x9 x10 x11;refine (rq F0.1.tb F0.1.hx A n c l HR0.1 hn).mono ?_;rw[HO.1];rintro e w1 ⟨A1,c1,rfl,_,hb1⟩;have F1:=jP (F0.1.step hb1);have HR1:=jP (HR0.1.below (hb1.mono F0.1.hx));clear hb1 F0 HR0;generalize (Gm.order T l).1.length=n1 at *;by_cases h0:Gm.kE l=0
 ·have hl4:=Gm.Iz h0;have HV:=jP (show nf=if 4096<(Gm.n_ T l).length then ([],7) else (Gm.n_ T l,0) by rw[HN.1,ah (by simpa using h0)]);have h6:=Gm.Tt F1.1.tb.good l;have Zp:n<=4096:=by have:=HL.1;omega
  rw[h0];clear HN h0;obtain⟨x0,x1,x2,x3,x4,x5,x6,x7,x8,x9,x10,x11⟩:=F1.1.cells;go_wp2_with fail
  clear x0 x1 x2 x3 x4 x5 x6 x7 x8 x9 x10 x11;refine (ZX F1.1.tb F1.1.hx A n c l HR1.1 (by omega)).mono ?_;rintro e w2 ⟨A2,c2,rfl,ho2,hb2⟩;have F2:=jP (F1.1.step hb2);have lG:=jP (lH ho2 (show w.heap.size<=w1.heap.size by have:=F1.1.sz;omega));clear ho2 hb2;generalize hm:(Gm.n_ T l).length=m at *;have HM:=jP hm;clear hm;by_cases h4:4096<m
  ·have HW:=jP (show nf=([],7) by rw[HV.1,aj h4]);go_wp2_with fail
   go_ret2
   rw[HW.1];exact⟨none,0,rfl,aH _ _ _ _,F2.1.bl⟩
  ·have HW:=jP (show nf=(Gm.n_ T l,0) by rw[HV.1,ah h4]);have h5:m<=4096:=by omega
   go_wp2_with fail
   go_ret2
   rw[HW.1];exact⟨A2,c2,by rw[HM.1];rfl,by rw[HM.1];exact lG.1,F2.1.bl⟩
 ·have HV:=jP (show nf=([],Gm.kE l) by rw[HN.1,aj h0]);have hb:(Gm.kE l != 0)=true:=by simpa using h0
  clear HN h0;go_wp2_with fail
  go_ret2
  rw[HV.1];exact⟨none,0,rfl,aH _ _ _ _,F1.1.bl⟩
end
def Gm.pj (T:Gm.Tab)(j:Nat)(a b:Int):Option Int:=((T.dec.take j).reverse.find? (fun m=>Gm.mO T m&&(m.to==[a,b]))).map (·.f)
theorem Gm.ae7 {T:Gm.Tab}{j:Nat}{m:Gm.Mp}(h:T.dec[j]?=some m)(a b:Int):Gm.pj T (j+1) a b=if (Gm.mO T m&&(m.to==[a,b]))=true then some m.f else Gm.pj T j a b:=by
 obtain⟨q1,q2⟩:=ak.1 h;unfold Gm.pj;rw[az q1,q2,List.reverse_append,List.reverse_singleton,List.singleton_append,List.find?_cons];split<;>simp_all
theorem Gm.agQ (T:Gm.Tab)(j:Nat)(hj:T.dec.length<=j)(a b:Int):Gm.pj T j a b=Gm.zX T a b:=by
 unfold Gm.pj Gm.zX;rw[aP hj]
theorem PI.congr {w:World}{g n:Nat}{f f':Int->Int->Option Int}(h:PI w g n f)(e:∀ a b,f a b=f' a b):PI w g n f':=by
 have:f=f':=funext fun a=>funext fun b=>e a b;rwa [<-this]
structure Cv (z q o c:Nat)(f a b:Int)(x:World):Prop where
 c0:x.cell? ⟨z,0,none⟩=some (.int .i64 f)
 c1:x.cell? ⟨z,1,none⟩=some (.slice (some ⟨q,o,none⟩) 2 c)
 c2:x.cell? ⟨q,o,none⟩=some (.int .i64 a)
 c3:x.cell? ⟨q,o+1,none⟩=some (.int .i64 b)
theorem Cv.conj {z q o c:Nat}{x:World}{f a b:Int}(h:Cv z q o c f a b x):x.cell? ⟨z,0,none⟩=some (.int .i64 f)/\x.cell? ⟨z,1,none⟩=some (.slice (some ⟨q,o,none⟩) 2 c)/\x.cell? ⟨q,o,none⟩=some (.int .i64 a)/\x.cell? ⟨q,o+1,none⟩=some (.int .i64 b):=⟨h.c0,h.c1,h.c2,h.c3⟩
theorem Cv.grown {z q o c g:Nat}{x y:World}{f a b:Int}(h:Cv z q o c f a b x)(hg:x.grownBy y (some g))(hz:z<x.heap.size)(hq:q<x.heap.size)(nz:z≠g)(nq:q≠g):Cv z q o c f a b y:=
 ⟨(hg.cell_far ⟨z,0,none⟩ hz (by simpa using nz)).trans h.c0,(hg.cell_far ⟨z,1,none⟩ hz (by simpa using nz)).trans h.c1,(hg.cell_far ⟨q,o,none⟩ hq (by simpa using nq)).trans h.c2,(hg.cell_far ⟨q,o+1,none⟩ hq (by simpa using nq)).trans h.c3⟩
section
variable {w:World} {B:Nat} {V:TV} {T:Gm.Tab}
theorem TK (h:j_ w B V T)(hB:B<=w.heap.size):Calls Tryz.prog 199 #[kF V] w fun e w'=>∃ g,e=.returned (.map (some g))/\PI w' g 5 (Gm.zX T)/\w.heap.size<=g/\Below w.heap.size w w':=by
 have F0:=jP (Fr.start h hB);clear h hB;have hn:V.dec.n<=5:=by have:=F0.1.tb.good.Fz;have:=F0.1.tb.dec.1;omega
 have wC:=jP F0.1.tb.dec.1;have yY:=jP (PI.made (w.alloc (.cells (kK V) 26)));have F1:=jP (F0.1.alloc (.map #[] 0));have ny:=jP F1.1.tb.dec;have hz:(w.alloc (.cells (kK V) 26)).heap.size=w.heap.size+1:=by simp
 rw[hz] at yY;have hmm:=@run_makeMap Tryz.prog;have x9:((w.alloc (.cells (kK V) 26)).alloc (.map #[] 0)).cell? ⟨w.heap.size,9,none⟩=some (.slice V.dec.A V.dec.n V.dec.c):=F1.1.bx.cell 9;clear hz;obtain⟨A,hA⟩:∃ A,A=V.dec.A:=⟨_,rfl⟩;rw[<-hA] at ny x9;clear hA;go_enter Tryz.func199,Tryz.ntmps199
 go_wp2_with fail
 clear x9 hmm;generalize hw1:(w.alloc (.cells (kK V) 26)).alloc (.map #[] 0)=w1 at *;clear hw1 F0;go_loopw [10] (fun i wr=>∃ k:Nat,k<=V.dec.n/\i=.int .i64 k/\PI wr (w.heap.size+1) k (Gm.pj T k)/\Below (w.heap.size+1) w1 wr) (fun i _=>V.dec.n-(intOf i).toNat)
 case atStart=>exact⟨0,by omega,rfl,yY.1.congr (fun _ _=>rfl),ai _ _⟩
 case round=>
  obtain⟨j,hj,rfl,hpb,hbr⟩:=hrel;have HI:=jP hbr;have xM:=jP hpb;have F2:=jP (F1.1.wK hbr (ag _));clear hbr hpb;by_cases hjn:j<V.dec.n
  ·obtain⟨b,off,m,A',c',rfl,hbB,hs,g0,g1,g2⟩:=rU (ny.1.below (HI.1.mono (by have:=F1.1.hB;omega))) hjn;have hm:=ay hs;have HD:=jP (F2.1.tb.good.dec m hm);have F3:=jP (F2.1.alloc (.cells #[.int .i64 m.f,.slice A' m.to.length c'] 89));have HX:=jP (Bk.new wr 89 #[.int .i64 m.f,.slice A' m.to.length c']);have HT:=jP (g2.alloc F2.1.hx (.cells #[.int .i64 m.f,.slice A' m.to.length c'] 89));have I8:=jP (xM.1.at_ (w':=wr.alloc (.cells #[.int .i64 m.f,.slice A' m.to.length c'] 89)) (iy wr _ _ xM.1.lt));have HI3:=jP (HI.1.alloc (show w.heap.size+1<=wr.heap.size from F2.1.sz) (.cells #[.int .i64 m.f,.slice A' m.to.length c'] 89));have Ku:=jP (fun a b=>Gm.ae7 hs a b);have RZ:=jP (fun a b hto=>Gm.U9 F2.1.tb.good hm (a:=a) (b:=b) hto);obtain⟨x0,x1,x2,x3,x4,x5,x6,x7,x8,x9,x10,x11⟩:=F3.1.cells;have hzx:=F2.1.sz;have hgl:=xM.1.lt;clear hs g2 hm;go_wp2_with fail
   generalize hwo:wr.alloc (.cells #[.int .i64 m.f,.slice A' m.to.length c'] 89)=wp at *;have hwz:wr.heap.size<wp.heap.size:=HX.1.lt;clear hwo g0 g1 x0 x1 x2 x3 x4 x5 x6 x7 x8 x9 x10 x11;generalize wr.heap.size=z at *;refine (QS (B:=B) (V:=V) (T:=T) HD.1 A' m.to.length c' _ F3.1.tb F3.1.hx HT.1).mono ?_;rintro e w4 ⟨rfl,hb4⟩;have F5:=jP (F3.1.step hb4);have ug:=jP (HX.1.below hb4 hwz);have FT:=jP (HT.1.below (hb4.mono F3.1.hx));have I7:=jP (I8.1.below hb4 I8.1.lt);have kY:=jP (HI3.1.trans (hb4.mono (by have:=F3.1.sz;omega)));clear hb4 xM I8 HI HI3 HX HT F3;cases hc:Gm.mO T m with
   | false=>
    have HE:=jP (I7.1.congr (f':=Gm.pj T (j+1)) (fun a b=>by rw[Ku.1,hc];simp));clear hc Ku;go_wp2_with fail
    go_roundw
    case rel=>exact⟨j+1,by omega,by go_num,by obtain⟨D,q1,q2⟩:=HE.1;exact⟨D,q1.mono (jJ _),q2⟩,kY.1⟩
    case measure=>simp[intOf];omega
   | true=>
    obtain⟨a,bb,hto⟩:=Gm.Ec hc;obtain⟨Qu,hb64,aco⟩:=RZ.1 a bb hto;have hf0:=HD.1.1;have adg:=jP (show ∀ x y,(if x=a/\y=bb then some m.f else Gm.pj T j x y)=Gm.pj T (j+1) x y from fun x y=>by
     rw[Ku.1,hc,hto];by_cases hxy:x=a/\y=bb
     ·rw[aj hxy,aj (by rw[hxy.1,hxy.2];simp)]
     ·rw[ah hxy,ah];simp only[je,dA,iJ,and_true];rintro⟨e1,e2⟩;exact hxy ⟨e1.symm,e2.symm⟩)
    have y0:w4.cell? ⟨z,0,none⟩=some (.int .i64 m.f):=ug.1.cell 0;have y1:w4.cell? ⟨z,1,none⟩=some (.slice A' m.to.length c'):=ug.1.cell 1;have zD:=FT.1;rw[hto] at y1 zD;obtain⟨q,o,e,hqB,hcc⟩:=zD.2 (by simp[ints]);have AQ:q<w4.heap.size:=by have:=F5.1.hx;omega
    subst e;have y2:w4.cell? ⟨q,o,none⟩=some (.int .i64 a):=hcc 0 _ rfl;have y3:w4.cell? ⟨q,o+1,none⟩=some (.int .i64 bb):=hcc 1 _ rfl;have e2:[a,bb].length=2:=rfl;rw[e2] at y1;have h4z:=F5.1.sz;have BU:z<w4.heap.size:=ug.1.lt;have hg4:=I7.1.lt;have hu1:Cv z q o c' m.f a bb w4:=⟨y0,y1,y2,y3⟩;have hu0:Cv z q o c' m.f a bb w4.drew:=⟨y0,y1,y2,y3⟩;have HPD:=jP (show PI w4.drew (w.heap.size+1) j (Gm.pj T j) from I7.1);obtain⟨w7,hup,Qi,mV⟩:=HPD.1.put (c:=m.f) (by omega) Qu hb64 ⟨by omega,by omega⟩ (t:=250) Tryz.underlying250;have Vm:=jP hup;have HC7:=jP (hu0.grown mV BU AQ (by omega) (by have:=F5.1.hB;omega));have adm:=jP (Qi.congr adg.1);have lN:=jP (kY.1.drew.grown mV (show w.heap.size+1<=w4.heap.size from h4z) (fun q hq=>by injection hq with hq;omega));clear hc Ku hto FT zD hcc e2 Qu hb64 RZ ug aco y0 y1 y2 y3 hup Qi;go_upto_region 6 with (fail)
    refine aI (S:=Cv z q o c' m.f a bb) (by kernel_rfl) hu0 (fun hHeld=>?_);refine tk 0 ?_;refine tk 1 ?_;refine tk 2 ?_;refine tk 3 ?_;refine tk 4 ?_;refine tk 5 ?_;refine tk 6 ?_;refine tk 7 ?_;refine tk 8 ?_;refine tk 9 ?_;refine tk 10 ?_;refine tk 11 ?_;refine rc 12 fun K hK=>?_;have hup:=Vm.1;go_simp
    refine rk hK HC7.1 fun hHeld=>?_;clear hK K;refine aJ (by kernel_rfl) ?_ _;go_wp2_with fail
    go_roundw
    case rel=>exact⟨j+1,by omega,by go_num,adm.1,lN.1⟩
    case measure=>simp[intOf];omega
  ·have HE:=jP (F2.1.bl);have HF:=jP (xM.1.congr (fun a b=>Gm.agQ T j (by have:=wC.1;omega) a b));go_wp2_with fail
   go_ret
   exact⟨w.heap.size+1,rfl,by obtain⟨D,q1,q2⟩:=HF.1;exact⟨D,q1.mono (by omega),q2⟩,by omega,HE.1⟩
end
theorem Pv {w:World}{T:Gm.Tab}{g n:Nat}(h:PI w g n (Gm.zX T)){a b:Int}(ha:I64 a)(hb:I64 b) :
  Calls Tryz.prog 201 #[.map (some g),.int .i64 a,.int .i64 b] w fun e w'=>e=.returned (.tuple #[.int .i64 ((Gm.pair T a b).getD 0),.bool (Gm.pair T a b).isSome])/\w=w':=by
 have HC:=jP (Zt a b w);have hlk:=h.look ha hb (t:=250) Tryz.underlying250;have HP:=jP (show Gm.pair T a b=if Hg.sG a b=true then some (Hg.comp a b) else Gm.zX T a b from rfl);generalize Gm.pair T a b=r at *;generalize Gm.zX T a b=pm at *;clear h ha hb;cases hc:Hg.sG a b with
 | true=>
  rw[hc] at HC HP;have HR:=jP (show r=some (Hg.comp a b) by rw[HP.1];rfl);clear HP hlk;go_enter Tryz.func201,Tryz.ntmps201
  go_wp2_with fail
  refine HC.1.mono ?_;rintro e w1 ⟨rfl,rfl⟩;go_wp2_with fail
  go_ret2
  rw[HR.1];exact⟨rfl,rfl⟩
 | false=>
  rw[hc] at HC HP;have HR:=jP (show r=pm by rw[HP.1];rfl);clear HP;go_enter Tryz.func201,Tryz.ntmps201
  go_wp2_with fail
  refine HC.1.mono ?_;rintro e w1 ⟨rfl,rfl⟩;go_wp2_with fail
  go_ret2
  rw[HR.1];exact⟨rfl,rfl⟩
def Gm.sF (T:Gm.Tab)(l:List Int)(k:Nat):Gm.CS:=(l.take k).foldl (Gm.sW T) ⟨[],none⟩
def Gm.stI:Option Nat->Int | none=>-1 | some p=>p
theorem Gm.QL {T:Gm.Tab}{l:List Int}{k:Nat}{x:Int}(h:l[k]?=some x):Gm.sF T l (k+1)=Gm.sW T (Gm.sF T l k) x:=by
 obtain⟨q1,q2⟩:=ak.1 h;unfold Gm.sF;rw[az q1,q2,List.foldl_append];rfl
theorem Gm.acY {a b:Int}(h:Hg.sG a b=true):I64 (Hg.comp a b):=by
 have hs:Hg.mF (Hg.comp a b)=true:=by
  unfold Hg.sG at h;rw[Bool.or_eq_true] at h;rcases h with h | h
  ·exact (Hg.af9 a b h).1
  ·exact (Hg.closed2 a b h).2.1
 unfold Hg.mF at hs;simp at hs;exact⟨by omega,by omega⟩
theorem Gm.abv {T:Gm.Tab}(hT:Gm.Good T){a b u:Int}(h:Gm.pair T a b=some u):I64 u:=by
 unfold Gm.pair at h;split at h
 ·rename_i hc
  injection h with h;subst h
  exact Gm.acY hc
 ·unfold Gm.zX at h;rw[gB] at h;obtain⟨m,hm,rfl⟩:=h;have hm:=List.mem_of_find?_eq_some hm;rw[List.mem_reverse] at hm;have hD:=hT.dec m hm;have h1:=hD.1;have h2:=hD.2.1;exact⟨by omega,by omega⟩
def Gm.SB (s:Gm.CS):Prop:=(∀ p,s.st=some p->p<s.out.length)/\∀ y∈s.out,I64 y
theorem Gm.LM {T:Gm.Tab}{s:Gm.CS}{x:Int}(hx:I64 x)(h:Gm.SB s):Gm.SB (Gm.qc T s x)/\(Gm.qc T s x).out.length<=s.out.length+1:=by
 refine⟨⟨fun p hp=>?_,fun y hy=>?_⟩,by simp[Gm.qc]⟩
 ·unfold Gm.qc at hp ⊢;simp only[aA,iI] at hp ⊢;split at hp
  ·injection hp with hp;omega
  ·have:=h.1 p hp;omega
 ·simp only[Gm.qc,aO,aB] at hy;rcases hy with hy | rfl
  ·exact h.2 y hy
  ·exact hx
theorem Gm.ac3 {T:Gm.Tab}(hT:Gm.Good T){s:Gm.CS}{x:Int}(hx:I64 x)(h:Gm.SB s):Gm.SB (Gm.sW T s x)/\(Gm.sW T s x).out.length<=s.out.length+1:=by
 unfold Gm.sW;split
 ·exact Gm.LM hx h
 ·split
  ·exact Gm.LM hx h
  ·rename_i p hst
   split
   ·exact Gm.LM hx h
   ·rename_i u hu
    refine⟨⟨fun q hq=>?_,fun y hy=>?_⟩,by simp⟩
    ·simp only[List.length_set];exact h.1 q hq
    ·rcases List.mem_or_eq_of_mem_set hy with hy | rfl
     ·exact h.2 y hy
     ·exact Gm.abv hT hu
theorem Gm.QM {T:Gm.Tab}(hT:Gm.Good T){l:List Int}(hl:∀ y∈l,I64 y):∀ k,k<=l.length->Gm.SB (Gm.sF T l k)/\(Gm.sF T l k).out.length<=k
 | 0,_=>⟨⟨fun p hp=>(by cases hp),fun y hy=>(by cases hy)⟩,ag _⟩
 | k+1,h=>by
  have hx:l[k]?=some l[k]:=au (by omega);obtain⟨h1,h2⟩:=Gm.QM hT hl k (by omega);rw[Gm.QL hx];obtain⟨h3,h4⟩:=Gm.ac3 hT (hl _ (ay hx)) h1;exact⟨h3,by omega⟩
theorem Gm.J4 {T:Gm.Tab}{out:List Int}{p:Nat}{x:Int}(hb:Gm.blocked T ⟨out,some p⟩ x=false)(hp:Gm.pair T (out.getD p 0) x=none):Gm.sW T ⟨out,some p⟩ x=Gm.qc T ⟨out,some p⟩ x:=by
 unfold Gm.sW;rw[ah (by rw[hb];decide)];simp only[hp]
theorem Gm.J3 {T:Gm.Tab}{out:List Int}{p:Nat}{x u:Int}(hb:Gm.blocked T ⟨out,some p⟩ x=false)(hp:Gm.pair T (out.getD p 0) x=some u):Gm.sW T ⟨out,some p⟩ x=⟨out.set p u,some p⟩:=by
 unfold Gm.sW;rw[ah (by rw[hb];decide)];simp only[hp]
theorem Gm.Vb (T:Gm.Tab)(l:List Int):(Gm.sF T l l.length).out=Gm.oM T l:=by unfold Gm.sF Gm.oM;rw[gJ]
section
variable {w:World} {B:Nat} {V:TV} {T:Gm.Tab}
theorem Z_ (h:j_ w B V T)(hB:B<=w.heap.size)(A:Option Addr)(n c:Nat)(l:List Int)(hr:Rd w B 1 A n (ints l))(hn:n<=1000000)(hi:∀ y∈l,I64 y) :
  Calls Tryz.prog 140 #[kF V,.slice A n c] w (vG 3 (Gm.oM T l) w):=by
 have F0:=jP (Fr.start h hB);have HL:=jP (lY hr);have HR0:=jP (hr.alloc hB (.cells (kK V) 26));have um:=jP hi;clear h hB hr hi;obtain⟨x0,x1,x2,x3,x4,x5,x6,x7,x8,x9,x10,x11⟩:=F0.1.cells;go_enter Tryz.func140,Tryz.ntmps140
 go_wp2_with fail
 clear x0 x1 x2 x3 x4 x5 x6 x7 x8 x9 x10 x11;refine (TK F0.1.tb F0.1.hx).mono ?_;rintro e w2 ⟨g,rfl,hp2,hg2,hb2⟩;have F2:=jP (F0.1.step hb2);have HR2:=jP (HR0.1.below (hb2.mono F0.1.hx));have HP:=jP hp2;clear hp2 hb2 F0 HR0;go_wp2_with fail
 go_loopw [6,7,20] (fun vo vs vi wr=>∃ (k m:Nat) (A4:Option Addr) (c4:Nat),k<=n/\vi=.int .i64 k/\vo=.slice A4 m c4/\vs=.int .i64 (Gm.stI (Gm.sF T l k).st)/\m=(Gm.sF T l k).out.length/\wr.ownsRow w2.heap.size 3 1 (.slice A4 m c4) m (ints (Gm.sF T l k).out)/\Below w2.heap.size w2 wr) (fun _ _ vi _=>n-(intOf vi).toNat)
 case atStart=>exact⟨0,0,none,0,by omega,rfl,rfl,rfl,rfl,aH _ _ _ _,ai _ _⟩
 case round=>
  obtain⟨k,m,A4,c4,hk,rfl,rfl,rfl,hm,ho,hb⟩:=hrel;have HM:=jP hm;have HO:=jP ho;have HI:=jP hb;have F3:=jP (F2.1.wK hb F2.1.sz);clear hm ho hb;obtain⟨hok,hok2⟩:=Gm.QM F3.1.tb.good um.1 k (by have:=HL.1;omega);have hm9:m<=k:=by rw[HM.1];exact hok2
  have HOK:=jP hok;clear hok hok2;by_cases hlt:k<n
  ·obtain⟨b,off,x,rfl,hbB,hat,hcell⟩:=jZ (HR2.1.below (HI.1.mono (by have:=F2.1.hB;have:=F2.1.sz;omega))) hlt;have HS:=jP (Gm.QL (T:=T) hat);have HX:=jP (um.1 x (ay hat));obtain⟨x0,x1,x2,x3,x4,x5,x6,x7,x8,x9,x10,x11⟩:=F3.1.cells;clear hat;generalize Gm.sF T l k=s at *;obtain⟨out,st⟩:=s;have HC:=jP (LJ F3.1.tb F3.1.hx x);have hh:∀ z,wr.heap.size=z->True:=fun _ _=>trivial;simp only at HM HO;cases st with
   | none=>
    have HE:=jP (show Gm.sF T l (k+1)=Gm.qc T ⟨out,none⟩ x by rw[HS.1];rfl);have hst:Gm.stI none=-1:=rfl;rw[hst];clear HS HOK hst;go_wp2_with fail
    clear x0 x1 x2 x3 x4 x5 x6 x7 x8 x9 x10 x11 hcell;refine HC.1.mono ?_;rintro e w5 ⟨rfl,hb5⟩;have hs5:w2.heap.size<=w5.heap.size:=aK HI.1.size hb5.size;have lD:=jP (kD HO.1 hb5);have kY:=jP (HI.1.trans (hb5.mono HI.1.size));clear hb5 HC F3 HO HI;by_cases h0:Gm.cls T x=0
    ·have HE2:=jP (show Gm.sF T l (k+1)=⟨out++[x],some out.length⟩ by rw[HE.1];simp[Gm.qc,h0]);rw[h0];try rw[h0] at hle
     clear h0;go_wp2_with (at_builtin;refine kW (by rfl) _ _ rfl (base:=w2.heap.size) rfl (lD.1.alloc _) rfl (kG (z:=w5.heap.size) rfl x) (by omega) (by simp<;>omega) ?_)
     intro A7 c7 w7 mG mV qo;have mD:=jP mG;have lN:=jP ((kY.1.alloc hs5 _).grown mV (by simp;omega) (pg lD.1));clear mG mV qo;go_wp2_with fail
     go_roundw
     case rel=>exact⟨k+1,m+1,A7,c7,by omega,by go_num,rfl,by rw[HE2.1];first | rfl | (show _=Value.int .i64 ((out.length:Nat):Int);rw[<-HM.1];all_goals go_num),by rw[HE2.1,HM.1];simp,by rw[HE2.1];exact mD.1,lN.1⟩
     case measure=>simp[intOf];omega
    ·have HE2:=jP (show Gm.sF T l (k+1)=⟨out++[x],none⟩ by rw[HE.1];simp[Gm.qc,h0]);have hb0:(Gm.cls T x==0)=false:=by simpa using h0
     clear h0;go_wp2_with (at_builtin;refine kW (by rfl) _ _ rfl (base:=w2.heap.size) rfl (lD.1.alloc _) rfl (kG (z:=w5.heap.size) rfl x) (by omega) (by simp<;>omega) ?_)
     intro A7 c7 w7 mG mV qo;have mD:=jP mG;have lN:=jP ((kY.1.alloc hs5 _).grown mV (by simp;omega) (pg lD.1));clear mG mV qo;go_wp2_with fail
     go_roundw
     case rel=>exact⟨k+1,m+1,A7,c7,by omega,by go_num,rfl,by rw[HE2.1];first | rfl | (show _=Value.int .i64 ((out.length:Nat):Int);rw[<-HM.1];all_goals go_num),by rw[HE2.1,HM.1];simp,by rw[HE2.1];exact mD.1,lN.1⟩
     case measure=>simp[intOf];omega
   | some p=>
    have hst:Gm.stI (some p)=(p:Int):=rfl;rw[hst];have hpm:p<m:=by rw[HM.1];exact HOK.1.1 p rfl
    have Vz:=jP HOK.1.2;have hp0:(0:Int)<=(p:Int):=by omega
    have hp1:¬((p:Int)<0):=by omega
    clear hst HOK;by_cases hlast:p+1<m
    ·obtain⟨q,rfl⟩:∃ q,m=q+1:=⟨m-1,by omega⟩;obtain⟨y,hy⟩:∃ y,out[q]?=some y:=⟨_,au (by have:=HM.1;omega)⟩;have oO:=jP (show Gm.blocked T ⟨out,some p⟩ x=(decide (Gm.cls T y=0)||decide (Gm.cls T x<=Gm.cls T y)) by
      have e1:out.getLastD 0=y:=by rw[iU,iV,<-HM.1,Nat.add_sub_cancel,hy];rfl
      unfold Gm.blocked;simp only;rw[aj (by rw[<-HM.1];exact hlast),e1])
     have hqp:(p:Int)<(q:Int):=by omega
     have hwq:IntKind.i64.wrap (q:Int)=(q:Int):=aW _ (by omega);have HY:=jP hy;clear hlast hy;go_wp2_with fail
     clear x0 x1 x2 x3 x4 x5 x6 x7 x8 x9 x10 x11 hcell;refine HC.1.mono ?_;rintro e w3 ⟨rfl,hb3⟩;have hs3:w2.heap.size<=w3.heap.size:=aK HI.1.size hb3.size;have mX:=jP (kD HO.1 hb3);have HI3:=jP (HI.1.trans (hb3.mono HI.1.size));have F4:=jP (F3.1.step hb3);clear hb3 HC F3 HO HI;obtain⟨g8,rfl,acn,ahv,hnc,hcell,hfr⟩:=uU mX.1 HY.1;have hs0:So w V T B g8 q y w3.drew:=So.drew ⟨F4.1,ahv,hcell⟩;have hcap:((q+1:Nat):Int)<=(c4:Int):=by omega
     have hq0:(0:Int)<=(q:Int):=by omega
     have hq1:(q:Int)<(q:Int)+1:=by omega
     clear hcell hfr;go_wp2_with fail
     refine aI (S:=So w V T B g8 q y) (by kernel_rfl) hs0 (fun hHeld=>?_);refine tk 0 ?_;refine tk 1 ?_;refine tk 2 ?_;refine tk 3 ?_;refine tk 4 ?_;refine rc 5 fun K hK=>?_;go_simp
     refine (EL hs0 y).mono ?_;rintro e w5 ⟨rfl,hb5,hs5⟩;try go_wp2_with fail
     refine rk hK hs5 fun hHeld=>?_;clear hK K;refine tk 6 ?_;refine aJ (by kernel_rfl) ?_ _;have lD:=jP (kD mX.1.drew hb5);have kY:=jP ((HI3.1.drew).trans (hb5.mono hs3));have hs5:w2.heap.size<=w5.heap.size:=kY.1.size;clear hs0 hb5 mX HI3 F4 hs3;have VD:=jP (show Gm.cls T y=0\/(Gm.cls T y≠0/\Gm.cls T x<=Gm.cls T y)\/(Gm.cls T y≠0/\¬Gm.cls T x<=Gm.cls T y) by omega);rcases VD.1 with hy0 | ⟨hy0,hle⟩ | ⟨hy0,hle⟩
     ·have HE:=jP (show Gm.sF T l (k+1)=Gm.qc T ⟨out,some p⟩ x by
       rw[HS.1];unfold Gm.sW;rw[aj (by rw[oO.1,hy0];rfl)])
      rw[hy0];clear HS oO VD hy0;by_cases h0:Gm.cls T x=0
      ·have HE2:=jP (show Gm.sF T l (k+1)=⟨out++[x],some out.length⟩ by rw[HE.1];simp[Gm.qc,h0]);rw[h0];try rw[h0] at hle
       clear h0;go_wp2_with (at_builtin;refine kW (by rfl) _ _ rfl (base:=w2.heap.size) rfl (lD.1.alloc _) rfl (kG (z:=w5.heap.size) rfl x) (by omega) (by simp<;>omega) ?_)
       intro A7 c7 w7 mG mV qo;have mD:=jP mG;have lN:=jP ((kY.1.alloc hs5 _).grown mV (by simp;omega) (pg lD.1));clear mG mV qo;go_wp2_with fail
       go_roundw
       case rel=>exact⟨k+1,(q+1)+1,A7,c7,by omega,by go_num,rfl,by rw[HE2.1];first | rfl | (show _=Value.int .i64 ((out.length:Nat):Int);rw[<-HM.1];all_goals go_num),by rw[HE2.1,HM.1];simp,by rw[HE2.1];exact mD.1,lN.1⟩
       case measure=>simp[intOf];omega
      ·have HE2:=jP (show Gm.sF T l (k+1)=⟨out++[x],some p⟩ by rw[HE.1];simp[Gm.qc,h0]);have hb0:(Gm.cls T x==0)=false:=by simpa using h0
       clear h0;go_wp2_with (at_builtin;refine kW (by rfl) _ _ rfl (base:=w2.heap.size) rfl (lD.1.alloc _) rfl (kG (z:=w5.heap.size) rfl x) (by omega) (by simp<;>omega) ?_)
       intro A7 c7 w7 mG mV qo;have mD:=jP mG;have lN:=jP ((kY.1.alloc hs5 _).grown mV (by simp;omega) (pg lD.1));clear mG mV qo;go_wp2_with fail
       go_roundw
       case rel=>exact⟨k+1,(q+1)+1,A7,c7,by omega,by go_num,rfl,by rw[HE2.1];first | rfl | (show _=Value.int .i64 ((out.length:Nat):Int);rw[<-HM.1];all_goals go_num),by rw[HE2.1,HM.1];simp,by rw[HE2.1];exact mD.1,lN.1⟩
       case measure=>simp[intOf];omega
     ·have HE:=jP (show Gm.sF T l (k+1)=Gm.qc T ⟨out,some p⟩ x by
       rw[HS.1];unfold Gm.sW;rw[aj (by rw[oO.1];simp[hle])])
      have hyb:(Gm.cls T y==0)=false:=by simpa using hy0
      clear HS oO VD hy0;by_cases h0:Gm.cls T x=0
      ·have HE2:=jP (show Gm.sF T l (k+1)=⟨out++[x],some out.length⟩ by rw[HE.1];simp[Gm.qc,h0]);rw[h0];try rw[h0] at hle
       clear h0;go_wp2_with (at_builtin;refine kW (by rfl) _ _ rfl (base:=w2.heap.size) rfl (lD.1.alloc _) rfl (kG (z:=w5.heap.size) rfl x) (by omega) (by simp<;>omega) ?_)
       intro A7 c7 w7 mG mV qo;have mD:=jP mG;have lN:=jP ((kY.1.alloc hs5 _).grown mV (by simp;omega) (pg lD.1));clear mG mV qo;go_wp2_with fail
       go_roundw
       case rel=>exact⟨k+1,(q+1)+1,A7,c7,by omega,by go_num,rfl,by rw[HE2.1];first | rfl | (show _=Value.int .i64 ((out.length:Nat):Int);rw[<-HM.1];all_goals go_num),by rw[HE2.1,HM.1];simp,by rw[HE2.1];exact mD.1,lN.1⟩
       case measure=>simp[intOf];omega
      ·have HE2:=jP (show Gm.sF T l (k+1)=⟨out++[x],some p⟩ by rw[HE.1];simp[Gm.qc,h0]);have hb0:(Gm.cls T x==0)=false:=by simpa using h0
       clear h0;go_wp2_with (at_builtin;refine kW (by rfl) _ _ rfl (base:=w2.heap.size) rfl (lD.1.alloc _) rfl (kG (z:=w5.heap.size) rfl x) (by omega) (by simp<;>omega) ?_)
       intro A7 c7 w7 mG mV qo;have mD:=jP mG;have lN:=jP ((kY.1.alloc hs5 _).grown mV (by simp;omega) (pg lD.1));clear mG mV qo;go_wp2_with fail
       go_roundw
       case rel=>exact⟨k+1,(q+1)+1,A7,c7,by omega,by go_num,rfl,by rw[HE2.1];first | rfl | (show _=Value.int .i64 ((out.length:Nat):Int);rw[<-HM.1];all_goals go_num),by rw[HE2.1,HM.1];simp,by rw[HE2.1];exact mD.1,lN.1⟩
       case measure=>simp[intOf];omega
     ·have BA:=jP (show Gm.blocked T ⟨out,some p⟩ x=false by rw[oO.1];simp[hle,hy0]);have hyb:(Gm.cls T y==0)=false:=by simpa using hy0
      clear oO VD hy0;obtain⟨z,hz⟩:∃ z,out[p]?=some z:=⟨_,au (by have:=HM.1;omega)⟩;obtain⟨g',e2,_,ape,_,hcz,hfz⟩:=uU lD.1 hz;injection e2 with e2;injection e2 with e2 _ _;subst e2
      have hp3:(p:Int)<(q:Int)+1:=by omega
      have hpd:decide ((p:Int)<0)=false:=by simp
      have hfp:=hfz p;have qf:=jP (Pv (HP.1.below kY.1 HP.1.lt) (Vz.1 z (ay hz)) HX.1);have KA:=jP (show out.getD p 0=z by rw[aY,hz];rfl);clear hz hfz;cases hpz:Gm.pair T z x with
      | none=>
       have HE:=jP (show Gm.sF T l (k+1)=Gm.qc T ⟨out,some p⟩ x by rw[HS.1];exact Gm.J4 BA.1 (by rw[KA.1];exact hpz));rw[hpz] at qf;clear hpz HS BA KA;go_wp2_with fail
       refine qf.1.mono ?_;rintro e w6 ⟨rfl,hw6⟩;subst hw6;clear qf hcz hfp;by_cases h0:Gm.cls T x=0
       ·have HE2:=jP (show Gm.sF T l (k+1)=⟨out++[x],some out.length⟩ by rw[HE.1];simp[Gm.qc,h0]);rw[h0];try rw[h0] at hle
        clear h0;go_wp2_with (at_builtin;refine kW (by rfl) _ _ rfl (base:=w2.heap.size) rfl (lD.1.alloc _) rfl (kG (z:=w5.heap.size) rfl x) (by omega) (by simp<;>omega) ?_)
        intro A7 c7 w7 mG mV qo;have mD:=jP mG;have lN:=jP ((kY.1.alloc hs5 _).grown mV (by simp;omega) (pg lD.1));clear mG mV qo;go_wp2_with fail
        go_roundw
        case rel=>exact⟨k+1,(q+1)+1,A7,c7,by omega,by go_num,rfl,by rw[HE2.1];first | rfl | (show _=Value.int .i64 ((out.length:Nat):Int);rw[<-HM.1];all_goals go_num),by rw[HE2.1,HM.1];simp,by rw[HE2.1];exact mD.1,lN.1⟩
        case measure=>simp[intOf];omega
       ·have HE2:=jP (show Gm.sF T l (k+1)=⟨out++[x],some p⟩ by rw[HE.1];simp[Gm.qc,h0]);have hb0:(Gm.cls T x==0)=false:=by simpa using h0
        clear h0;go_wp2_with (at_builtin;refine kW (by rfl) _ _ rfl (base:=w2.heap.size) rfl (lD.1.alloc _) rfl (kG (z:=w5.heap.size) rfl x) (by omega) (by simp<;>omega) ?_)
        intro A7 c7 w7 mG mV qo;have mD:=jP mG;have lN:=jP ((kY.1.alloc hs5 _).grown mV (by simp;omega) (pg lD.1));clear mG mV qo;go_wp2_with fail
        go_roundw
        case rel=>exact⟨k+1,(q+1)+1,A7,c7,by omega,by go_num,rfl,by rw[HE2.1];first | rfl | (show _=Value.int .i64 ((out.length:Nat):Int);rw[<-HM.1];all_goals go_num),by rw[HE2.1,HM.1];simp,by rw[HE2.1];exact mD.1,lN.1⟩
        case measure=>simp[intOf];omega
      | some u=>
       have HE:=jP (show Gm.sF T l (k+1)=⟨out.set p u,some p⟩ by rw[HS.1];exact Gm.J3 BA.1 (by rw[KA.1];exact hpz));rw[hpz] at qf;clear hpz HS BA KA;go_wp2_with fail
       refine qf.1.mono ?_;rintro e w6 ⟨rfl,hw6⟩;subst hw6;have Dz:=jP (Ac lD.1 (show p<q+1 by omega) u);have HI8:=jP (kY.1.setCell (p:=⟨g8,p,none⟩) acn (.int .i64 u));clear qf;go_wp2_with fail
       go_roundw
       case rel=>exact⟨k+1,q+1,some ⟨g8,0,none⟩,c4,by omega,by go_num,rfl,by rw[HE.1];rfl,by rw[HE.1];simp[HM.1],by rw[HE.1];exact Dz.1,HI8.1⟩
       case measure=>simp[intOf];omega
    ·obtain rfl:m=p+1:=by omega
     have BA:=jP (show Gm.blocked T ⟨out,some p⟩ x=false by
      unfold Gm.blocked;simp only;rw[ah (by rw[<-HM.1];exact hlast)])
     have hwq:IntKind.i64.wrap (p:Int)=(p:Int):=aW _ (by omega);have hpd:decide ((p:Int)<0)=false:=by simp
     clear hlast;go_wp2_with fail
     clear x0 x1 x2 x3 x4 x5 x6 x7 x8 x9 x10 x11 hcell;refine HC.1.mono ?_;rintro e w5 ⟨rfl,hb5⟩;have hs5:w2.heap.size<=w5.heap.size:=aK HI.1.size hb5.size;have lD:=jP (kD HO.1 hb5);have kY:=jP (HI.1.trans (hb5.mono HI.1.size));clear hb5 HC F3 HO HI;obtain⟨z,hz⟩:∃ z,out[p]?=some z:=⟨_,au (by have:=HM.1;omega)⟩;obtain⟨g8,rfl,acn,ahv,hnc,hcz,hfz⟩:=uU lD.1 hz;have hcap:((p+1:Nat):Int)<=(c4:Int):=by omega
     have hp3:(p:Int)<(p:Int)+1:=by omega
     have hpd:decide ((p:Int)<0)=false:=by simp
     have hfp:=hfz p;have qf:=jP (Pv (HP.1.below kY.1 HP.1.lt) (Vz.1 z (ay hz)) HX.1);have KA:=jP (show out.getD p 0=z by rw[aY,hz];rfl);clear hz hfz;cases hpz:Gm.pair T z x with
     | none=>
      have HE:=jP (show Gm.sF T l (k+1)=Gm.qc T ⟨out,some p⟩ x by rw[HS.1];exact Gm.J4 BA.1 (by rw[KA.1];exact hpz));rw[hpz] at qf;clear hpz HS BA KA;go_wp2_with fail
      refine qf.1.mono ?_;rintro e w6 ⟨rfl,hw6⟩;subst hw6;clear qf hcz hfp;by_cases h0:Gm.cls T x=0
      ·have HE2:=jP (show Gm.sF T l (k+1)=⟨out++[x],some out.length⟩ by rw[HE.1];simp[Gm.qc,h0]);rw[h0];try rw[h0] at hle
       clear h0;go_wp2_with (at_builtin;refine kW (by rfl) _ _ rfl (base:=w2.heap.size) rfl (lD.1.alloc _) rfl (kG (z:=w5.heap.size) rfl x) (by omega) (by simp<;>omega) ?_)
       intro A7 c7 w7 mG mV qo;have mD:=jP mG;have lN:=jP ((kY.1.alloc hs5 _).grown mV (by simp;omega) (pg lD.1));clear mG mV qo;go_wp2_with fail
       go_roundw
       case rel=>exact⟨k+1,(p+1)+1,A7,c7,by omega,by go_num,rfl,by rw[HE2.1];first | rfl | (show _=Value.int .i64 ((out.length:Nat):Int);rw[<-HM.1];all_goals go_num),by rw[HE2.1,HM.1];simp,by rw[HE2.1];exact mD.1,lN.1⟩
       case measure=>simp[intOf];omega
      ·have HE2:=jP (show Gm.sF T l (k+1)=⟨out++[x],some p⟩ by rw[HE.1];simp[Gm.qc,h0]);have hb0:(Gm.cls T x==0)=false:=by simpa using h0
       clear h0;go_wp2_with (at_builtin;refine kW (by rfl) _ _ rfl (base:=w2.heap.size) rfl (lD.1.alloc _) rfl (kG (z:=w5.heap.size) rfl x) (by omega) (by simp<;>omega) ?_)
       intro A7 c7 w7 mG mV qo;have mD:=jP mG;have lN:=jP ((kY.1.alloc hs5 _).grown mV (by simp;omega) (pg lD.1));clear mG mV qo;go_wp2_with fail
       go_roundw
       case rel=>exact⟨k+1,(p+1)+1,A7,c7,by omega,by go_num,rfl,by rw[HE2.1];first | rfl | (show _=Value.int .i64 ((out.length:Nat):Int);rw[<-HM.1];all_goals go_num),by rw[HE2.1,HM.1];simp,by rw[HE2.1];exact mD.1,lN.1⟩
       case measure=>simp[intOf];omega
     | some u=>
      have HE:=jP (show Gm.sF T l (k+1)=⟨out.set p u,some p⟩ by rw[HS.1];exact Gm.J3 BA.1 (by rw[KA.1];exact hpz));rw[hpz] at qf;clear hpz HS BA KA;go_wp2_with fail
      refine qf.1.mono ?_;rintro e w6 ⟨rfl,hw6⟩;subst hw6;have Dz:=jP (Ac lD.1 (show p<p+1 by omega) u);have HI8:=jP (kY.1.setCell (p:=⟨g8,p,none⟩) acn (.int .i64 u));clear qf;go_wp2_with fail
      go_roundw
      case rel=>exact⟨k+1,p+1,some ⟨g8,0,none⟩,c4,by omega,by go_num,rfl,by rw[HE.1];rfl,by rw[HE.1];simp[HM.1],by rw[HE.1];exact Dz.1,HI8.1⟩
      case measure=>simp[intOf];omega
  ·obtain rfl:k=n:=by omega
   have hfe:(Gm.sF T l k).out=Gm.oM T l:=by have:=HL.1;rw[show k=l.length by omega];exact Gm.Vb T l
   have lI:=jP (lH HO.1 (show w.heap.size<=w2.heap.size by have:=F2.1.sz;omega));rw[hfe] at lI HM;clear hfe;go_wp2_with fail
   go_ret
   exact⟨A4,c4,by rw[HM.1];rfl,by rw[<-HM.1];exact lI.1,F3.1.bl⟩
end
theorem Gm.TU {c:Int}(h0:0<=c)(h1:c<55296):Gm.kS c≠0:=by
 unfold Gm.kS;rw[ah (by omega)];split
 ·decide
 ·split
  ·decide
  ·split<;>decide
theorem Gm.Ox {c:Int}(h:Gm.kS c≠0):I64 c:=by
 unfold Gm.kS at h;by_cases h1:¬(0<=c/\c<=1114111/\(c<55296\/57343<c))
 ·rw[aj h1] at h;exact absurd rfl h
 ·exact⟨by omega,by omega⟩
theorem Gm.afy {c:Int}(h:Hg.mF c=true):∀ y∈Hg.dec c,Gm.kS y≠0:=by
 have hs:=h;unfold Hg.mF at hs;simp at hs;have h1:∀ a:Int,0<=a->a<40000->Gm.kS (4000+a)≠0:=fun a ha hb=>Gm.TU (by omega) (by omega);intro y hy;have h2:0<=Hg.pI c/\Hg.pI c<20/\0<=Hg.pJ c/\Hg.pJ c<22/\0<=Hg.pK c/\Hg.pK c<30:=by
  unfold Hg.pI Hg.pJ Hg.pK;rw[aj h,aj h,aj h];omega
 obtain⟨b1,b2,b3,b4,b5,b6⟩:=h2;have hb:4352<=y/\y<5000:=by
  unfold Hg.dec at hy;rw[aj h] at hy;split at hy
  ·simp only[aN,aZ,dw] at hy;rcases hy with rfl | rfl<;>omega
  ·simp only[aN,aZ,dw] at hy;rcases hy with rfl | rfl | rfl<;>omega
 exact Gm.TU (by omega) (by omega)
theorem Gm.afC {T:Gm.Tab}(hT:Gm.Good T):∀ (n:Nat) (c:Int),Gm.rk c<n->Gm.kS c≠0->∀ y∈Gm.oV T c,Gm.kS y≠0:=by
 intro n;induction n with
 | zero=>intro c hc;omega
 | succ n ih=>
  intro c hc hu y hy;cases hs:Hg.mF c with
  | true=>rw[Gm.Fg hs] at hy;exact Gm.afy hs y hy
  | false=>
   cases hd:Gm.dec T c with
   | none=>
    rw[Gm.zZ hs hd,aB] at hy;subst hy;exact hu
   | some l=>
    rw[Gm.D9 hT hs hd,List.mem_flatMap] at hy;obtain⟨d,hd1,hd2⟩:=hy;have hD:=hT.sV hd;have hr:=hD.rk d hd1;exact ih d (by simp only at hr;omega) (hD.mF d hd1).2.2.2.1 y hd2
theorem Gm.acB {T:Gm.Tab}(hT:Gm.Good T){c:Int}(h:Gm.kS c≠0):∀ y∈Gm.oV T c,Gm.kS y≠0:=Gm.afC hT 6 c (by have:=Gm.wL c;omega) h
theorem Gm.PN {T:Gm.Tab}{k x y:Int}:∀ {R:List Int},y∈Gm.CV T k x R->y=x\/y∈R
 | [],h=>by simp[Gm.CV] at h;exact .inl h
 | z::r,h=>by
  unfold Gm.CV at h;split at h
  ·rw[aN] at h;rcases h with rfl | h
   ·exact .inr (by simp)
   ·rcases Gm.PN h with e | e
    ·exact .inl e
    ·exact .inr (by simp[e])
  ·rw[aN] at h;exact h
theorem Gm.MP {T:Gm.Tab}{y:Int}:∀ {l R:List Int},y∈l.foldl (Gm.sO T) R->y∈l\/y∈R
 | [],R,h=>.inr h
 | x::l,R,h=>by
  rw[gZ] at h;rcases Gm.MP h with e | e
  ·exact .inl (by simp[e])
  ·unfold Gm.sO at e;split at e
   ·rw[aN] at e;rcases e with rfl | e
    ·exact .inl (by simp)
    ·exact .inr e
   ·rcases Gm.PN e with rfl | e
    ·exact .inl (by simp)
    ·exact .inr e
theorem Gm.abK {T:Gm.Tab}{l:List Int}{y:Int}(h:y∈Gm.sort T l):y∈l:=by
 unfold Gm.sort at h;rw[List.mem_reverse] at h;rcases Gm.MP h with e | e
 ·exact e
 ·cases e
theorem Gm.Ux {l:List Int}(h:Gm.kE l=0):∀ y∈l,Gm.kS y≠0:=by
 unfold Gm.kE at h;split at h
 ·cases h
 ·split at h
  ·cases h
  ·rename_i h2
   intro y hy e;exact h2 (dP.2 ⟨y,hy,by simp[e]⟩)
theorem Gm.JB {T:Gm.Tab}(hT:Gm.Good T){l:List Int}(h:∀ y∈l,Gm.kS y≠0):∀ y∈Gm.n_ T l,Gm.kS y≠0:=by
 intro y hy;have:=Gm.abK hy;rw[List.mem_flatMap] at this;obtain⟨d,h1,h2⟩:=this;exact Gm.acB hT (h d h1) y h2
theorem Gm.PE {T:Gm.Tab}{l:List Int}(h:(Gm.oW T l).2=0):Gm.kE l=0/\(Gm.oW T l).1=Gm.n_ T l/\(Gm.n_ T l).length<=4096:=by
 unfold Gm.oW at h ⊢;split at h
 ·exact absurd h (by assumption)
 ·rename_i h0
  rw[ah h0];split at h
  ·cases h
  ·rename_i h4
   rw[ah h4];exact⟨by simpa using h0,rfl,by omega⟩
theorem Gm.Z9 {T:Gm.Tab}(hT:Gm.Good T){l:List Int}(hl:∀ y∈l,I64 y):(Gm.oM T l).length<=l.length/\∀ y∈Gm.oM T l,I64 y:=by
 have:=Gm.QM hT hl l.length (ag _);rw[<-Gm.Vb];exact⟨this.2,this.1.2⟩
theorem Gm.Lc {T:Gm.Tab}(hT:Gm.Good T)(l:List Int):(Gm.qG T l).1.length<=4096:=by
 unfold Gm.qG;split
 ·simp
 ·rename_i h
  obtain⟨h1,h2,h3⟩:=Gm.PE (T:=T) (l:=l) (by simpa using h);rw[h2];have:=(Gm.Z9 hT (l:=Gm.n_ T l) (fun y hy=>Gm.Ox (Gm.JB hT (Gm.Ux h1) y hy))).1;simp only;omega
theorem ZK (A A':Option Addr)(n n' c c':Nat)(l l':List Int)(B:Nat)(w:World)(hx:Rd w B 1 A n (ints l))(hy:Rd w B 1 A' n' (ints l'))(hB:B<=w.heap.size)(hn:n<=1000000)(hn':n'<=1000000) :
  Calls Tryz.prog 252 #[.slice A n c,.slice A' n' c'] w fun e w'=>e=.returned (.bool (l==l'))/\Below w.heap.size w w':=by
 have hl:=lY hx;have hl':=lY hy;have HX:=jP hx;have HY:=jP hy;have HL:=jP hl;have HL':=jP hl';clear hx hy hl hl';by_cases hnn:n=n'
 ·subst hnn;go_enter Tryz.func252,Tryz.ntmps252
  go_wp2_with fail
  go_loopw [13] (fun vi wr=>∃ k m:Nat,k<=n/\vi=.int .i64 k/\l.take k=l'.take k/\wr=w.drewN m) (fun vi _=>n-(intOf vi).toNat)
  case atStart=>exact⟨0,0,by omega,rfl,rfl,rfl⟩
  case round=>
   obtain⟨k,m,hk,rfl,htk,rfl⟩:=hrel;have wZ:=jP htk;clear htk;by_cases hlt:k<n
   ·obtain⟨b,off,cc,rfl,hb,hat,hcell⟩:=jZ HX.1 hlt;obtain⟨b',off',cc',rfl,hb',hat',hcell'⟩:=jZ HY.1 hlt;have yX:=jP (show l.take (k+1)=l'.take (k+1)↔cc=cc' by
     obtain⟨q1,q2⟩:=ak.1 hat;obtain⟨q3,q4⟩:=ak.1 hat';rw[az q1,az q3,q2,q4,wZ.1];simp)
    clear hat hat';by_cases hcc:cc=cc'
    ·have HT2:=jP (yX.1.2 hcc);subst hcc;have hne:(cc != cc)=false:=by simp
     go_wp2_with fail
     go_quiet (fail)
     go_wp2_with fail
     go_roundw
     case rel=>exact⟨k+1,_,by omega,by go_num,HT2.1,rfl⟩
     case measure=>simp[intOf];omega
    ·have hne:(cc != cc')=true:=by simpa using hcc
     have HF:=jP (show (l==l')=false by
      rw[<-jH];intro e;rw[dA] at e;exact hcc (yX.1.1 (by rw[e])))
     clear hcc;go_wp2_with fail
     go_quiet (fail)
     go_wp2_with fail
     go_ret
     exact⟨by rw[HF.1];rfl,below_drewN (below_drewN (ai _ _) _) _⟩
   ·have HF:=jP (show (l==l')=true by
     have h1:=wZ.1;rw[aP (by have:=HL.1;omega),aP (by have:=HL'.1;omega)] at h1;rw[h1];simp)
    go_wp2_with fail
    go_ret
    exact⟨by rw[HF.1];rfl,below_drewN (ai _ _) _⟩
 ·have HF:=jP (show (l==l')=false by
   rw[<-jH];intro e;rw[dA] at e;have h1:=HL.1;have h2:=HL'.1;rw[e] at h1;omega)
  have hne:((n:Int) != (n':Int))=true:=by rw[fK];exact fun e=>hnn (by omega)
  go_enter Tryz.func252,Tryz.ntmps252
  go_wp2_with fail
  go_ret
  exact⟨by rw[HF.1];rfl,ai _ _⟩
section
variable {w:World} {B:Nat} {V:TV} {T:Gm.Tab}
theorem UA (h:j_ w B V T)(hB:B<=w.heap.size)(A:Option Addr)(n c:Nat)(l:List Int)(hr:Rd w B 1 A n (ints l))(hn:n<=1000000) :
  Calls Tryz.prog 81 #[kF V,.slice A n c] w (Cb 3 (Gm.qG T l).1 [.int .i64 (Gm.qG T l).2] w):=by
 have F0:=jP (Fr.start h hB);have HR0:=jP (hr.alloc hB (.cells (kK V) 26));have HN:=jP (show Gm.qG T l=if (Gm.oW T l).2≠0 then ([],(Gm.oW T l).2) else (Gm.oM T (Gm.oW T l).1,0) from rfl);clear h hB hr;generalize Gm.qG T l=nf at *;obtain⟨x0,x1,x2,x3,x4,x5,x6,x7,x8,x9,x10,x11⟩:=F0.1.cells;go_enter Tryz.func81,Tryz.ntmps81
 go_wp2_with fail
 clear x0 x1 x2 x3 x4 x5 x6 x7 x8 x9 x10 x11;refine (La F0.1.tb F0.1.hx A n c l HR0.1 hn).mono ?_;rintro e w1 ⟨A1,c1,rfl,ho1,hb1⟩;have F1:=jP (F0.1.step hb1);have nT:=jP ho1;clear ho1 hb1 F0 HR0;by_cases h0:(Gm.oW T l).2=0
 ·have HV:=jP (show nf=(Gm.oM T (Gm.oW T l).1,0) by rw[HN.1,ah (by simpa using h0)]);obtain⟨q1,q2,q3⟩:=Gm.PE h0;have um:=jP (show ∀ y∈(Gm.oW T l).1,I64 y by rw[q2];exact fun y hy=>Gm.Ox (Gm.JB F1.1.tb.good (Gm.Ux q1) y hy));have HL:=jP (show (Gm.oW T l).1.length<=4096 by rw[q2];exact q3);rw[h0];clear HN h0 q1 q2 q3;generalize (Gm.oW T l).1=d at *;obtain⟨x0,x1,x2,x3,x4,x5,x6,x7,x8,x9,x10,x11⟩:=F1.1.cells;go_wp2_with fail
  clear x0 x1 x2 x3 x4 x5 x6 x7 x8 x9 x10 x11;refine (Z_ (F1.1.tb.more F1.1.hx) (ag _) A1 d.length c1 d (Rd.kX nT.1) (by have:=HL.1;omega) um.1).mono ?_;rintro e w2 ⟨A2,c2,rfl,ho2,hb2⟩;have F2:=jP (F1.1.step hb2);have lG:=jP (lH ho2 (show w.heap.size<=w1.heap.size by have:=F1.1.sz;omega));clear ho2 hb2;go_wp2_with fail
  go_ret2
  rw[HV.1];exact⟨A2,c2,rfl,lG.1,F2.1.bl⟩
 ·have HV:=jP (show nf=([],(Gm.oW T l).2) by rw[HN.1,aj h0]);have hb:((Gm.oW T l).2 != 0)=true:=by simpa using h0
  clear HN h0;go_wp2_with fail
  go_ret2
  rw[HV.1];exact⟨none,0,rfl,aH _ _ _ _,F1.1.bl⟩
theorem Zh (h:j_ w B V T)(hB:B<=w.heap.size)(A:Option Addr)(n c:Nat)(l:List Int)(hr:Rd w B 1 A n (ints l))(hn:n<=1000000) :
  Calls Tryz.prog 204 #[kF V,.slice A n c] w fun e w'=>e=.returned (.bool (Gm.zY T l))/\Below w.heap.size w w':=by
 have F0:=jP (Fr.start h hB);have HR0:=jP (hr.alloc hB (.cells (kK V) 26));have HN:=jP (show Gm.zY T l=(decide ((Gm.qG T l).2=0)&&((Gm.qG T l).1==l)) from rfl);have HL:=jP (Gm.Lc h.good l);clear h hB hr;generalize Gm.zY T l=nf at *;obtain⟨x0,x1,x2,x3,x4,x5,x6,x7,x8,x9,x10,x11⟩:=F0.1.cells;go_enter Tryz.func204,Tryz.ntmps204
 go_wp2_with fail
 clear x0 x1 x2 x3 x4 x5 x6 x7 x8 x9 x10 x11;refine (UA F0.1.tb F0.1.hx A n c l HR0.1 hn).mono ?_;rintro e w1 ⟨A1,c1,rfl,ho1,hb1⟩;have F1:=jP (F0.1.step hb1);have nT:=jP ho1;have HR1:=jP ((HR0.1.below (hb1.mono F0.1.hx)).more (show B<=w1.heap.size from F1.1.hx));clear ho1 hb1 F0 HR0;generalize Gm.qG T l=q at *;obtain⟨d,u⟩:=q;simp only at HN HL nT;by_cases h0:u=0
 ·subst h0;go_wp2_with fail
  refine (ZK A1 A d.length n c1 c d l w1.heap.size w1 (Rd.kX nT.1) HR1.1 (ag _) (by have:=HL.1;omega) hn).mono ?_;rintro e w2 ⟨rfl,hb2⟩;have F2:=jP (F1.1.step hb2);clear hb2;go_wp2_with fail
  go_ret
  exact⟨by rw[HN.1];simp,F2.1.bl⟩
 ·have hb:(u==0)=false:=by simpa using h0
  have HF:=jP (show nf=false by rw[HN.1];simp[h0]);clear HN h0;go_wp2_with fail
  go_ret
  exact⟨by rw[HF.1];rfl,F1.1.bl⟩
end
theorem Gm.afO {T:Gm.Tab}(hT:Gm.Good T)(c:Int):∀ q,Gm.pX T.ext c=some q->q.length<=2:=fun q hq=>by
 obtain⟨m,hm,_,rfl⟩:=Gm.Dn hq;rcases hT.ext with e | e
 ·rw[e] at hm;cases hm
 ·rw[e,aB] at hm;subst hm;decide
theorem Gm.PT {T:Gm.Tab}(hT:Gm.Good T)(c:Int):∀ q,Gm.pX T.maps c=some q->q.length<=2:=fun q hq=>by
 obtain⟨m,hm,_,rfl⟩:=Gm.Dn hq;obtain⟨_,_,j,_,_,e | e⟩:=hT.maps m hm<;>rw[e]<;>simp
theorem Gm.abL {T:Gm.Tab}(hT:Gm.Good T)(c:Int):(Gm.maps T c).length<=2:=by
 unfold Gm.maps;split
 ·simp
 ·cases h:Gm.pX T.maps c with
  | none=>simp
  | some q=>exact Gm.PT hT c q h
theorem Gm.abN {T:Gm.Tab}{out:List Int}{k:Nat}{l:List Int}{x:Int}(hx:l[k]?=some x){R:List Int×Option Nat}(h:Gm.sD T out k (l.drop k)=R) :
  (Gm.jU T x=1\/Gm.jU T x=4->Gm.sD T (out++[x]) (k+1) (l.drop (k+1))=R)/\(Gm.jU T x=3->Gm.sD T (out++Gm.maps T x) (k+1) (l.drop (k+1))=R) /\
  (Gm.jU T x=0->R=(out,some k))/\(Gm.jU T x≠1->Gm.jU T x≠4->Gm.jU T x≠3->Gm.jU T x≠0->Gm.sD T out (k+1) (l.drop (k+1))=R):=by
 obtain⟨q1,q2⟩:=ak.1 hx;rw[bP q1,q2] at h;unfold Gm.sD at h;refine⟨fun h1=>by rwa [aj h1] at h,fun h1=>by rwa [ah (by omega),aj h1] at h,fun h1=>by rw[ah (by omega),ah (by omega),aj h1] at h;exact h.symm,fun h1 h2 h3 h4=>by rwa [ah (by omega),ah h3,ah h4] at h⟩
def Gm.YU:List Int×Option Nat->List Int×Int×Int
 | (_,some i)=>([],(i:Int),16)
 | (out,none)=>if 4096<out.length then ([],0,7) else (out,0,0)
section
variable {w:World} {B:Nat} {V:TV} {T:Gm.Tab}
theorem OM (h:j_ w B V T)(hB:B<=w.heap.size)(c:Int):Calls Tryz.prog 300 #[kF V,.int .i64 c] w (vG 3 (Gm.scripts T c) w):=by
 have F0:=jP (Fr.start h hB);have HT:=jP (Gm.afO h.good c);have HS:=jP (show Gm.scripts T c=(Gm.pX T.ext c).getD [] from rfl);clear h hB;generalize Gm.scripts T c=sc at *;go_enter Tryz.func300,Tryz.ntmps300
 obtain⟨x0,x1,x2,x3,x4,x5,x6,x7,x8,x9,x10,x11⟩:=F0.1.cells;go_wp2_with fail
 clear x0 x1 x2 x3 x4 x5 x6 x7 x8 x9 x10 x11;refine (uZ _ _ _ T.ext c B _ F0.1.tb.ext F0.1.hx (by rcases F0.1.tb.good.ext with e | e<;>rw[e]<;>decide) (Gm.U3 F0.1.tb.good)).mono ?_;rintro e w1 ⟨hb,he⟩;have F1:=jP (F0.1.step hb);have HB1:=jP (hb.mono F0.1.hx);clear hb F0;generalize Gm.pX T.ext c=o at *;cases o with
 | none=>
  simp only at he;subst he;go_wp2_with fail
  refine (xB _).mono ?_;rintro e w2 ⟨rfl,rfl⟩;go_wp2
  go_ret
  rw[HS.1];exact⟨none,0,rfl,aH _ _ _ _,F1.1.bl⟩
 | some q=>
  obtain⟨A,cc,rfl,hr⟩:=he;have HR:=jP (hr.below HB1.1);clear hr;have Ky:=jP (HT.1 q rfl);go_wp2_with fail
  refine (xC A q.length cc q B _ HR.1 F1.1.hx (by have:=Ky.1;omega)).mono ?_;rintro e w2 ⟨A2,c2,rfl,ho,hb2⟩;have F2:=jP (F1.1.step hb2);have HO:=jP (lH ho (show w.heap.size<=w1.heap.size by have:=F1.1.sz;omega));clear ho hb2;go_wp2
  go_ret
  rw[HS.1];exact⟨A2,c2,rfl,HO.1,F2.1.bl⟩
theorem YT (h:j_ w B V T)(hB:B<=w.heap.size)(c:Int):Calls Tryz.prog 138 #[kF V,.int .i64 c] w (vG 3 (Gm.maps T c) w):=by
 have F0:=jP (Fr.start h hB);have HT:=jP (Gm.PT h.good c);have HM:=jP (show Gm.maps T c=if 65<=c/\c<=90 then [c+32] else (Gm.pX T.maps c).getD [] from rfl);clear h hB;generalize Gm.maps T c=sc at *;go_enter Tryz.func138,Tryz.ntmps138
 obtain⟨x0,x1,x2,x3,x4,x5,x6,x7,x8,x9,x10,x11⟩:=F0.1.cells;by_cases h1:65<=c
 ·by_cases h2:c<=90
  ·have hw1:IntKind.i64.wrap (c+97)=c+97:=aW _ (by omega);have hw2:IntKind.i64.wrap (c+97-65)=c+97-65:=aW _ (by omega);have HS:=jP (show sc=[c+97-65] by rw[HM.1,aj ⟨h1,h2⟩,show c+97-65=c+32 by omega]);clear HM;go_wp2_with fail
   go_ret
   rw[HS.1];obtain⟨A,cc,q1,q2,q3⟩:=vG.built 3 (w.alloc (.cells (kK V) 26)) [c+97-65] #[.int .i64 (c+97-65)] 1 rfl rfl (by decide);rw[show (w.alloc (.cells (kK V) 26)).heap.size=w.heap.size+1 by simp] at q1;exact⟨A,cc,q1,lH q2 (by simp),((ai _ _).alloc (ag _) _).trans (q3.mono (by simp))⟩
  ·have HS:=jP (show sc=(Gm.pX T.maps c).getD [] by rw[HM.1,ah (by omega)]);clear HM;go_wp2_with fail
   clear x0 x1 x2 x3 x4 x5 x6 x7 x8 x9 x10 x11;refine (uZ _ _ _ T.maps c B _ F0.1.tb.maps F0.1.hx (by have:=F0.1.tb.good.PV;omega) F0.1.tb.good.mapA).mono ?_;rintro e w1 ⟨hb,he⟩;have F1:=jP (F0.1.step hb);have HB1:=jP (hb.mono F0.1.hx);clear hb F0;generalize Gm.pX T.maps c=o at *;cases o with
   | none=>
    simp only at he;subst he;go_wp2_with fail
    refine (xB _).mono ?_;rintro e w2 ⟨rfl,rfl⟩;go_wp2
    go_ret
    rw[HS.1];exact⟨none,0,rfl,aH _ _ _ _,F1.1.bl⟩
   | some q=>
    obtain⟨A,cc,rfl,hr⟩:=he;have HR:=jP (hr.below HB1.1);clear hr;have Ky:=jP (HT.1 q rfl);go_wp2_with fail
    refine (xC A q.length cc q B _ HR.1 F1.1.hx (by have:=Ky.1;omega)).mono ?_;rintro e w2 ⟨A2,c2,rfl,ho,hb2⟩;have F2:=jP (F1.1.step hb2);have HO:=jP (lH ho (show w.heap.size<=w1.heap.size by have:=F1.1.sz;omega));clear ho hb2;go_wp2
    go_ret
    rw[HS.1];exact⟨A2,c2,rfl,HO.1,F2.1.bl⟩
 ·have HS:=jP (show sc=(Gm.pX T.maps c).getD [] by rw[HM.1,ah (by omega)]);clear HM;go_wp2_with fail
  clear x0 x1 x2 x3 x4 x5 x6 x7 x8 x9 x10 x11;refine (uZ _ _ _ T.maps c B _ F0.1.tb.maps F0.1.hx (by have:=F0.1.tb.good.PV;omega) F0.1.tb.good.mapA).mono ?_;rintro e w1 ⟨hb,he⟩;have F1:=jP (F0.1.step hb);have HB1:=jP (hb.mono F0.1.hx);clear hb F0;generalize Gm.pX T.maps c=o at *;cases o with
  | none=>
   simp only at he;subst he;go_wp2_with fail
   refine (xB _).mono ?_;rintro e w2 ⟨rfl,rfl⟩;go_wp2
   go_ret
   rw[HS.1];exact⟨none,0,rfl,aH _ _ _ _,F1.1.bl⟩
  | some q=>
   obtain⟨A,cc,rfl,hr⟩:=he;have HR:=jP (hr.below HB1.1);clear hr;have Ky:=jP (HT.1 q rfl);go_wp2_with fail
   refine (xC A q.length cc q B _ HR.1 F1.1.hx (by have:=Ky.1;omega)).mono ?_;rintro e w2 ⟨A2,c2,rfl,ho,hb2⟩;have F2:=jP (F1.1.step hb2);have HO:=jP (lH ho (show w.heap.size<=w1.heap.size by have:=F1.1.sz;omega));clear ho hb2;go_wp2
   go_ret
   rw[HS.1];exact⟨A2,c2,rfl,HO.1,F2.1.bl⟩
theorem afl (h:j_ w B V T)(hB:B<=w.heap.size)(A:Option Addr)(n c:Nat)(l:List Int)(hr:Rd w B 1 A n (ints l))(hn:n<=1000000) :
  Calls Tryz.prog 80 #[kF V,.slice A n c] w (Cb 3 (Gm.map T l).1 [.int .i64 (Gm.map T l).2.1,.int .i64 (Gm.map T l).2.2] w):=by
 have F0:=jP (Fr.start h hB);have HR0:=jP (hr.alloc hB (.cells (kK V) 26));have HL:=jP (lY hr);have HN:=jP (show Gm.map T l=if Gm.kE l≠0 then ([],0,Gm.kE l) else Gm.YU (Gm.sD T [] 0 l) from by unfold Gm.map;split;rfl;generalize Gm.sD T [] 0 l=R;rcases R with ⟨a,b | b⟩<;>rfl);have HO:=jP (show (Gm.order T l).2=Gm.kE l by unfold Gm.order;split<;>simp_all);clear h hB hr;generalize Gm.map T l=nf at *;obtain⟨x0,x1,x2,x3,x4,x5,x6,x7,x8,x9,x10,x11⟩:=F0.1.cells;go_enter Tryz.func80,Tryz.ntmps80
 go_wp2_with fail
 clear x0 x1 x2 x3 x4 x5 x6 x7 x8 x9 x10 x11;refine (rq F0.1.tb F0.1.hx A n c l HR0.1 hn).mono ?_;rw[HO.1];rintro e w1 ⟨A1,c1,rfl,_,hb1⟩;have F1:=jP (F0.1.step hb1);have HR1:=jP (HR0.1.below (hb1.mono F0.1.hx));clear hb1 F0 HR0;generalize (Gm.order T l).1.length=n1 at *;by_cases h0:Gm.kE l=0
 ·have hl4:=Gm.Iz h0;have Zp:n<=4096:=by have:=HL.1;omega
  generalize hR:Gm.sD T [] 0 l=R at *;have HV:=jP (show nf=Gm.YU R by rw[HN.1,ah (by simpa using h0)]);have R_:=jP (show Gm.sD T [] 0 (l.drop 0)=R from hR);rw[h0];clear HN h0 hR hl4;go_wp2_with fail
  go_loopw [9,23] (fun vo vi wr=>∃ (k m:Nat) (A4:Option Addr) (c4:Nat) (out:List Int),k<=n/\vi=.int .i64 k/\vo=.slice A4 m c4/\m=out.length/\m<=2*k/\Gm.sD T out k (l.drop k)=R/\wr.ownsRow w1.heap.size 3 1 (.slice A4 m c4) m (ints out)/\Below w1.heap.size w1 wr) (fun _ vi _=>n-(intOf vi).toNat)
  case atStart=>exact⟨0,0,none,0,[],by omega,rfl,rfl,rfl,by omega,R_.1,aH _ _ _ _,ai _ _⟩
  case round=>
   obtain⟨k,m,A4,c4,out,hk,rfl,rfl,hm,hm2,hg,ho,hb⟩:=hrel;have HM:=jP hm;have HOW:=jP ho;have HI:=jP hb;have HG:=jP hg;have F3:=jP (F1.1.wK hb F1.1.sz);clear hm ho hb hg;by_cases hlt:k<n
   ·obtain⟨b,off,x,rfl,hbB,hat,hcell⟩:=jZ (HR1.1.below (HI.1.mono (by have:=F1.1.hx;omega))) hlt;obtain⟨hg1,hg2,hg3,hg4⟩:=Gm.abN hat HG.1;have vN:=jP hg1;have HG2:=jP hg2;have xN:=jP hg3;have VA:=jP hg4;obtain⟨x0,x1,x2,x3,x4,x5,x6,x7,x8,x9,x10,x11⟩:=F3.1.cells;have HC:=jP (Gt F3.1.tb F3.1.hx x);clear hat hg1 hg2 hg3 hg4;generalize hst:Gm.jU T x=st at *;have HST:=jP hst;clear hst;go_wp2_with fail
    clear x0 x1 x2 x3 x4 x5 x6 x7 x8 x9 x10 x11 hcell;refine HC.1.mono ?_;rintro e w5 ⟨rfl,hb5⟩;have hs5:w1.heap.size<=w5.heap.size:=aK HI.1.size hb5.size;have lD:=jP (kD HOW.1 hb5);have kY:=jP (HI.1.trans (hb5.mono HI.1.size));have F5:=jP (F3.1.step hb5);clear hb5 HC F3 HOW HI HG;by_cases h1:st=1
    ·have HE:=jP (vN.1 (.inl h1));subst h1;clear vN HG2 xN VA;go_wp2_with (at_builtin;refine kW (by rfl) _ _ rfl (base:=w1.heap.size) rfl (lD.1.alloc _) rfl (kG (z:=w5.heap.size) rfl x) (by omega) (by simp<;>omega) ?_)
     intro A7 c7 w7 mG mV qo;have mD:=jP mG;have lN:=jP ((kY.1.alloc hs5 _).grown mV (by simp;omega) (pg lD.1));clear mG mV qo;go_wp2_with fail
     go_roundw
     case rel=>exact⟨k+1,m+1,A7,c7,out++[x],by omega,by go_num,rfl,by rw[aA,<-HM.1];rfl,by omega,HE.1,mD.1,lN.1⟩
     case measure=>simp[intOf];omega
    ·have hb1:(st==1)=false:=by simpa using h1
     by_cases h4:st=4
     ·have HE:=jP (vN.1 (.inr h4));subst h4;clear vN HG2 xN VA;go_wp2_with (at_builtin;refine kW (by rfl) _ _ rfl (base:=w1.heap.size) rfl (lD.1.alloc _) rfl (kG (z:=w5.heap.size) rfl x) (by omega) (by simp<;>omega) ?_)
      intro A7 c7 w7 mG mV qo;have mD:=jP mG;have lN:=jP ((kY.1.alloc hs5 _).grown mV (by simp;omega) (pg lD.1));clear mG mV qo;go_wp2_with fail
      go_roundw
      case rel=>exact⟨k+1,m+1,A7,c7,out++[x],by omega,by go_num,rfl,by rw[aA,<-HM.1];rfl,by omega,HE.1,mD.1,lN.1⟩
      case measure=>simp[intOf];omega
     ·have hb4:(st==4)=false:=by simpa using h4
      by_cases h3:st=3
      ·have HE:=jP (HG2.1 h3);have vM:=jP (Gm.abL F5.1.tb.good x);subst h3;clear vN HG2 xN VA hb1 hb4;obtain⟨x0,x1,x2,x3,x4,x5,x6,x7,x8,x9,x10,x11⟩:=F5.1.cells;go_wp2_with fail
       clear x0 x1 x2 x3 x4 x5 x6 x7 x8 x9 x10 x11;refine (YT F5.1.tb F5.1.hx x).mono ?_;rintro e w6 ⟨A6,c6,rfl,kT,hb6⟩;have hs6:w1.heap.size<=w6.heap.size:=aK hs5 hb6.size;have lI:=jP (kD lD.1 hb6);have um:=jP (kY.1.trans (hb6.mono hs5));have Cf:=jP (Rd.kX kT);clear kT hb6 lD kY;generalize Gm.maps T x=ys at *;have hyl:ys.length<=2:=vM.1;generalize hyn:ys.length=yn at *;have HYN:=jP hyn;clear hyn;go_wp2_with (at_builtin;refine kW (by rfl) _ _ rfl (base:=w1.heap.size) rfl lI.1 rfl Cf.1 (by omega) (by omega) ?_)
       intro A7 c7 w7 mG mV qo;have mD:=jP mG;have lN:=jP (um.1.grown mV hs6 (pg lI.1));clear mG mV qo;go_wp2_with fail
       go_roundw
       case rel=>exact⟨k+1,m+yn,A7,c7,out++ys,by omega,by go_num,rfl,by rw[aA,<-HM.1,HYN.1],by omega,HE.1,mD.1,lN.1⟩
       case measure=>simp[intOf];omega
      ·have hb3:(st==3)=false:=by simpa using h3
       by_cases h9:st=0
       ·have HE:=jP (xN.1 h9);subst h9;clear vN HG2 xN VA hb1 hb4 hb3;go_wp2_with fail
        go_ret3
        rw[HV.1,HE.1];exact⟨none,0,rfl,aH _ _ _ _,F5.1.bl⟩
       ·have nK:(st==0)=false:=by simpa using h9
        have HE:=jP (VA.1 h1 h4 h3 h9);clear vN HG2 xN VA h1 h4 h3 h9;go_wp2_with fail
        go_roundw
        case rel=>exact⟨k+1,m,A4,c4,out,by omega,by go_num,rfl,HM.1,by omega,HE.1,lD.1,kY.1⟩
        case measure=>simp[intOf];omega
   ·obtain rfl:k=n:=by omega
    have HW:=jP (show nf=if 4096<m then ([],0,7) else (out,0,0) by
     have h1:=HG.1;rw[List.drop_eq_nil_of_le (by have:=HL.1;omega)] at h1;rw[HV.1,<-h1,HM.1];rfl)
    have lI:=jP (lH HOW.1 (show w.heap.size<=w1.heap.size by have:=F1.1.sz;omega));by_cases h4:4096<m
    ·have HX:=jP (show nf=([],0,7) by rw[HW.1,aj h4]);have Hl:(4096:Int)<(m:Int):=by omega
     go_wp2_with fail
     go_ret3
     rw[HX.1];exact⟨none,0,rfl,aH _ _ _ _,F3.1.bl⟩
    ·have HX:=jP (show nf=(out,0,0) by rw[HW.1,ah h4]);have Hl:¬(4096:Int)<(m:Int):=by omega
     go_wp2_with fail
     go_ret3
     rw[HX.1];exact⟨A4,c4,by rw[<-HM.1];rfl,by rw[<-HM.1];exact lI.1,F3.1.bl⟩
 ·have HV:=jP (show nf=([],0,Gm.kE l) by rw[HN.1,aj h0]);have hb:(Gm.kE l != 0)=true:=by simpa using h0
  clear HN h0;go_wp2_with fail
  go_ret3
  rw[HV.1];exact⟨none,0,rfl,aH _ _ _ _,F1.1.bl⟩
end
theorem Gm.GH {p:Nat->Bool}{n k:Nat}{R:Option Nat}(hk:k<n)(h:Gm.l9 p (n-k) k=R):(p k=true->Gm.l9 p (n-(k+1)) (k+1)=R)/\(p k=false->R=some k):=by
 rw[show n-k=(n-(k+1))+1 by omega] at h;unfold Gm.l9 at h;exact⟨fun e=>by rwa [aj e] at h,fun e=>by rw[ah (by simp[e])] at h;exact h.symm⟩
theorem Gm.getD_at {l:List Int}{i:Nat}{x:Int}(h:l[i]?=some x):l.getD i 0=x:=by rw[aY,h];rfl
theorem OL {w:World}{V:TV}{T:Gm.Tab}{B g p:Nat}{y:Int}{x:World}(h:So w V T B g p y x)(c:Int):Calls Tryz.prog 315 #[kF V,.int .i64 c] x fun e x'=>e=.returned (.int .i64 (Gm.ku T c))/\Below x.heap.size x x'/\So w V T B g p y x':=
 (afr h.fr.tb h.fr.hx c).mono fun e x' ⟨he,hb⟩=>⟨he,hb,h.step hb⟩
section
variable {w:World} {B:Nat} {V:TV} {T:Gm.Tab}
theorem Gm.EX (T:Gm.Tab)(l:List Int):∀ i,-1<=Gm.nextL T l i/\Gm.nextL T l i<i
 | 0=>⟨by simp[Gm.nextL],by simp[Gm.nextL]⟩
 | i+1=>by
  unfold Gm.nextL;have:=Gm.EX T l i;split<;>omega
theorem Gm.EW (T:Gm.Tab):∀ (l:List Int) (i:Nat),-1<=Gm.oQ T l i/\Gm.oQ T l i<i+l.length/\(Gm.oQ T l i=-1\/(i:Int)<=Gm.oQ T l i)
 | [],i=>⟨by simp[Gm.oQ],by simp[Gm.oQ];omega,.inl rfl⟩
 | c::r,i=>by
  unfold Gm.oQ;have:=Gm.EW T r (i+1);simp only[dX];split<;>omega
theorem YL (h:j_ w B V T)(hB:B<=w.heap.size)(A:Option Addr)(n c:Nat)(l:List Int)(hr:Rd w B 1 A n (ints l))(hn:n<=1000000)(i:Nat)(hi:i<=n) :
  Calls Tryz.prog 294 #[kF V,.slice A n c,.int .i64 i,.int .i64 (-1)] w fun e w'=>e=.returned (.int .i64 (Gm.nextL T l i))/\Below w.heap.size w w':=by
 have F0:=jP (Fr.start h hB);have HR0:=jP (hr.alloc hB (.cells (kK V) 26));clear h hr;have hw:IntKind.i64.wrap ((i:Int)+-1)=(i:Int)-1:=aW _ (by omega);generalize hR:Gm.nextL T l i=R at *;have HR:=jP hR;clear hR;go_enter Tryz.func294,Tryz.ntmps294
 go_wp2_with fail
 go_step3
 go_wp2_with fail
 go_step3
 go_wp2_with fail
 generalize hw1:w.alloc (.cells (kK V) 26)=w1 at *;clear hw1 hw;go_loopw [2,9] (fun v v9 wr=>∃ j:Nat,j<=i/\v=.int .i64 ((j:Int)-1)/\v9=.int .i64 (-1)/\Gm.nextL T l j=R/\Below w1.heap.size w1 wr) (fun v _ _=>(intOf v+1).toNat)
 case atStart=>exact⟨i,by omega,rfl,rfl,HR.1,ai _ _⟩
 case round=>
  obtain⟨j,hj,rfl,rfl,hjn,hb⟩:=hrel;have F2:=jP (F0.1.step hb);have HI:=jP hb;have HN:=jP hjn;clear hb hjn;cases j with
  | zero=>
   have HX:=jP (show R=-1 from HN.1.symm);have e0:((0:Nat):Int)-1=-1:=by omega
   rw[e0];go_wp2_with fail
   try rw[Exit.noGoto_ret]
   go_ret
   exact⟨qE HX.1.symm,F2.1.bl⟩
  | succ q=>
   obtain⟨b,off,x,rfl,hbB,hat,hcell⟩:=jZ (HR0.1.below (HI.1.mono F0.1.hx)) (show q<n by omega);have HQ:=jP (show (if Gm.ku T x=5 then Gm.nextL T l q else (q:Int))=R by
    have h1:=HN.1;unfold Gm.nextL at h1;rwa [Gm.getD_at hat] at h1)
   have hs0:So w V T B b (off+q) x wr.drew:=So.drew ⟨F2.1,by have:=F2.1.hx;omega,hcell⟩;have e0:((q+1:Nat):Int)-1=(q:Int):=by omega
   have hq0:(0:Int)<=(q:Int):=by omega
   have hq1:(q:Int)<(n:Int):=by omega
   rw[e0];clear hat hcell HN e0;go_wp2_with fail
   refine aI (S:=So w V T B b (off+q) x) (by kernel_rfl) hs0 (fun hHeld=>?_);refine tk 0 ?_;refine tk 1 ?_;refine tk 2 ?_;refine tk 3 ?_;refine tk 4 ?_;refine rc 5 fun K hK=>?_;go_simp
   refine (OL hs0 x).mono ?_;rintro e w3 ⟨rfl,hb3,hs3⟩;try go_wp2_with fail
   refine rk hK hs3 fun hHeld=>?_;clear hK K;refine aJ (by kernel_rfl) ?_ _;have F4:=jP hs3.fr;have HI4:=jP ((HI.1.drew).trans (hb3.mono HI.1.size));clear hs0 hs3 hb3 F2 HI;generalize Gm.ku T x=kk at *;by_cases h5:kk=5
   ·subst h5;have ry:=jP (show Gm.nextL T l q=R from HQ.1);have hw2:IntKind.i64.wrap ((q:Int)+-1)=(q:Int)-1:=aW _ (by omega);clear HQ;go_wp2_with fail
    go_roundw
    case rel=>exact⟨q,by omega,rfl,rfl,ry.1,HI4.1⟩
    case measure=>simp[intOf];try omega
   ·have h5b:(kk==5)=false:=by simpa using h5
    have HX:=jP (show R=(q:Int) by rw[<-HQ.1,ah h5]);clear h5;go_wp2_with fail
    try rw[Exit.noGoto_ret]
    go_ret
    exact⟨qE HX.1.symm,F4.1.bl⟩
theorem WH (h:j_ w B V T)(hB:B<=w.heap.size)(A:Option Addr)(n c:Nat)(l:List Int)(hr:Rd w B 1 A n (ints l))(hn:n<=1000000)(i:Nat)(hi:i<n) :
  Calls Tryz.prog 294 #[kF V,.slice A n c,.int .i64 i,.int .i64 1] w fun e w'=>e=.returned (.int .i64 (Gm.oQ T (l.drop (i+1)) (i+1)))/\Below w.heap.size w w':=by
 have F0:=jP (Fr.start h hB);have HR0:=jP (hr.alloc hB (.cells (kK V) 26));have HL:=jP (lY hr);clear h hr;generalize hR:Gm.oQ T (l.drop (i+1)) (i+1)=R at *;have HR:=jP hR;clear hR;go_enter Tryz.func294,Tryz.ntmps294
 go_wp2_with fail
 go_step3
 go_wp2_with fail
 go_step3
 go_wp2_with fail
 generalize hw1:w.alloc (.cells (kK V) 26)=w1 at *;clear hw1;go_loopw [2,9] (fun v v9 wr=>∃ j:Nat,i+1<=j/\j<=n/\v=.int .i64 j/\v9=.int .i64 (-1)/\Gm.oQ T (l.drop j) j=R/\Below w1.heap.size w1 wr) (fun v _ _=>n-(intOf v).toNat)
 case atStart=>exact⟨i+1,by omega,by omega,by go_num,rfl,HR.1,ai _ _⟩
 case round=>
  obtain⟨q,hj1,hj,rfl,rfl,hjn,hb⟩:=hrel;have F2:=jP (F0.1.step hb);have HI:=jP hb;have HN:=jP hjn;have hq0:(0:Int)<=(q:Int):=by omega
  clear hb hjn;by_cases hlt:q<n
  ·obtain⟨b,off,x,rfl,hbB,hat,hcell⟩:=jZ (HR0.1.below (HI.1.mono F0.1.hx)) hlt;have HQ:=jP (show (if Gm.ku T x=5 then Gm.oQ T (l.drop (q+1)) (q+1) else (q:Int))=R by
    have h1:=HN.1;obtain⟨q1,q2⟩:=ak.1 hat;rw[bP q1,q2] at h1;exact h1)
   have hs0:So w V T B b (off+q) x wr.drew:=So.drew ⟨F2.1,by have:=F2.1.hx;omega,hcell⟩;have hq1:(q:Int)<(n:Int):=by omega
   clear hat hcell HN;go_wp2_with fail
   refine aI (S:=So w V T B b (off+q) x) (by kernel_rfl) hs0 (fun hHeld=>?_);refine tk 0 ?_;refine tk 1 ?_;refine tk 2 ?_;refine tk 3 ?_;refine tk 4 ?_;refine rc 5 fun K hK=>?_;go_simp
   refine (OL hs0 x).mono ?_;rintro e w3 ⟨rfl,hb3,hs3⟩;try go_wp2_with fail
   refine rk hK hs3 fun hHeld=>?_;clear hK K;refine aJ (by kernel_rfl) ?_ _;have F4:=jP hs3.fr;have HI4:=jP ((HI.1.drew).trans (hb3.mono HI.1.size));clear hs0 hs3 hb3 F2 HI;generalize Gm.ku T x=kk at *;by_cases h5:kk=5
   ·subst h5;have ry:=jP (show Gm.oQ T (l.drop (q+1)) (q+1)=R from HQ.1);clear HQ;go_wp2_with fail
    go_roundw
    case rel=>exact⟨q+1,by omega,by omega,by go_num,rfl,ry.1,HI4.1⟩
    case measure=>simp[intOf];try omega
   ·have h5b:(kk==5)=false:=by simpa using h5
    have HX:=jP (show R=(q:Int) by rw[<-HQ.1,ah h5]);clear h5;go_wp2_with fail
    try rw[Exit.noGoto_ret]
    go_ret
    exact⟨qE HX.1.symm,F4.1.bl⟩
  ·obtain rfl:q=n:=by omega
   have HX:=jP (show R=-1 by
    have h1:=HN.1;rw[List.drop_eq_nil_of_le (by have:=HL.1;omega)] at h1;exact h1.symm)
   go_wp2_with fail
   try rw[Exit.noGoto_ret]
   go_ret
   exact⟨qE HX.1.symm,F2.1.bl⟩
theorem Ze (h:j_ w B V T)(hB:B<=w.heap.size)(A:Option Addr)(n c:Nat)(l:List Int)(hr:Rd w B 1 A n (ints l))(hn:n<=1000000)(i side:Int)(hi:i<n)(hi0:-1<=i) :
  Calls Tryz.prog 293 #[kF V,.slice A n c,.int .i64 i,.int .i64 side] w fun e w'=>e=.returned (.bool (Gm.joins T l i side))/\Below w.heap.size w w':=by
 have F0:=jP (Fr.start h hB);have HR0:=jP (hr.alloc hB (.cells (kK V) 26));clear h hr;by_cases hneg:i<0
 ·obtain rfl:i=-1:=by omega
  go_enter Tryz.func293,Tryz.ntmps293
  go_wp2_with fail
  go_ret
  exact⟨rfl,F0.1.bl⟩
 ·obtain⟨k,rfl⟩:∃ k:Nat,i=(k:Int):=⟨i.toNat,by omega⟩;obtain⟨b,off,x,rfl,hbB,hat,hcell⟩:=jZ HR0.1 (show k<n by omega);have HJ:=jP (show Gm.joins T l (k:Int) side=decide (Gm.ku T x=side\/Gm.ku T x=3) by
   unfold Gm.joins;rw[ah hneg,bU,Gm.getD_at hat])
  generalize Gm.joins T l (k:Int) side=jo at *;have hs0:So w V T B b (off+k) x ((w.alloc (.cells (kK V) 26)).drew):=So.drew ⟨F0.1,by have:=F0.1.hx;omega,hcell⟩;have hk0:(0:Int)<=(k:Int):=by omega
  clear hat hcell hi0;go_enter Tryz.func293,Tryz.ntmps293
  go_wp2_with fail
  refine aI (S:=So w V T B b (off+k) x) (by kernel_rfl) hs0 (fun hHeld=>?_);refine tk 0 ?_;refine tk 1 ?_;refine tk 2 ?_;refine tk 3 ?_;refine tk 4 ?_;refine rc 5 fun K hK=>?_;go_simp
  refine (OL hs0 x).mono ?_;rintro e w3 ⟨rfl,hb3,hs3⟩;try go_wp2_with fail
  refine rk hK hs3 fun hHeld=>?_;clear hK K;refine tk 6 ?_;refine aJ (by kernel_rfl) ?_ _;have F4:=jP hs3.fr;clear hs0 hs3 hb3 F0 HR0;generalize Gm.ku T x=q at *;by_cases h1:q=side
  ·subst h1;have HX:=jP (show jo=true by rw[HJ.1];simp);have hqq:(q==q)=true:=by simp
   go_wp2_with fail
   go_ret
   exact⟨by rw[HX.1];rfl,F4.1.bl⟩
  ·have h1b:(q==side)=false:=by simpa using h1
   by_cases h3:q=3
   ·subst h3;have HX:=jP (show jo=true by rw[HJ.1];simp);clear h1;go_wp2_with fail
    go_ret
    exact⟨by rw[HX.1];rfl,F4.1.bl⟩
   ·have h3b:(q==3)=false:=by simpa using h3
    have HX:=jP (show jo=false by rw[HJ.1];simp[h1,h3]);clear h1 h3;go_wp2_with fail
    go_ret
    exact⟨by rw[HX.1];rfl,F4.1.bl⟩
end
end Go.Proofs.YtkachcflifhgiaaGreatDoor
