/-   -/
import Derived.Test.YtkachcflifhgiaaGreatDoorGtJZ
import Derived.Test.YtkachcflifhgiaaGreatDoorGtMZ
set_option linter.unusedVariables false
set_option maxRecDepth 100000
set_option maxHeartbeats 16000000
namespace Go.Proofs.YtkachcflifhgiaaGreatDoor
open Go Go.RowKit Go.Shelf Go.Proofs
def Gm.seen (T:Gm.Tab)(j:Nat)(a b:Int):Bool:=(T.dec.take j).any (fun m=>Gm.mO T m&&(m.to==[a,b]))
theorem Gm.Yl {T:Gm.Tab}{j:Nat}{m:Gm.Mp}(h:T.dec[j]?=some m)(a b:Int):Gm.seen T (j+1) a b=(Gm.seen T j a b||(Gm.mO T m&&(m.to==[a,b]))):=by
 obtain⟨q1,q2⟩:=ak.1 h;unfold Gm.seen;rw[az q1,q2,jL];simp
theorem Gm.acZ {T:Gm.Tab}{m:Gm.Mp}(h:Gm.mO T m=true):Gm.exc T m.f=false:=by
 obtain⟨f,q⟩:=m;match q with
 | []=>cases h
 | [a]=>cases h
 | [a,b]=>
  have h2:Gm.yC T (5+1) ⟨f,[a,b]⟩=true:=h;unfold Gm.yC at h2;simp only[iq] at h2;simpa using h2.1.1.1.1.1
 | a::b::c::r=>cases h
theorem Gm.Ec {T:Gm.Tab}{m:Gm.Mp}(h:Gm.mO T m=true):∃ a b,m.to=[a,b]:=by
 obtain⟨f,q⟩:=m;match q with
 | []=>cases h
 | [a]=>cases h
 | [a,b]=>exact⟨a,b,rfl⟩
 | a::b::c::r=>cases h
theorem Gm.aeN {T:Gm.Tab}(hT:Gm.Good T){j:Nat}{m:Gm.Mp}(h:T.dec[j]?=some m)(hc:Gm.mO T m=true){a b:Int}(hto:m.to=[a,b]):Gm.seen T j a b=false:=by
 rw[<-jH];intro hs;unfold Gm.seen at hs;rw[dP] at hs;obtain⟨p,hp,hp2⟩:=hs;simp only[iq,dA] at hp2;obtain⟨i,hi⟩:=gU.1 hp;rw[List.getElem?_take] at hi;split at hi
 ·rename_i hij
  obtain⟨q1,q2⟩:=ak.1 h;obtain⟨q3,q4⟩:=ak.1 hi;have:=eX.1 hT.uP i j q3 q1 hij;rw[q2,q4] at this;have h2:=this (by rw[hp2.2,hto]);have h3:=Gm.acZ hc;unfold Gm.exc at h3;rw[List.contains_eq_mem] at h3;simp[h2] at h3
 ·cases hi
theorem PB.congr {w:World}{g n:Nat}{f f':Int->Int->Bool}(h:PB w g n f)(e:∀ a b,f a b=f' a b):PB w g n f':=by
 have:f=f':=funext fun a=>funext fun b=>e a b;rwa [<-this]
theorem Gm.U9 {T:Gm.Tab}(hT:Gm.Good T){m:Gm.Mp}(hm:m∈T.dec){a b:Int}(hto:m.to=[a,b]):I64 a/\I64 b/\m.f<=7684:=by
 have hD:=hT.dec m hm;have hs:=hD.mF;rw[hto] at hs;have h1:=hs a (by simp);have h2:=hs b (by simp);exact⟨⟨by omega,by omega⟩,⟨by omega,by omega⟩,hD.2.1⟩
structure Uq (k:Nat)(w0:World)(z q o c:Nat)(a b:Int)(x:World):Prop where
 bl:Below k w0 x
 kx:k<=x.heap.size
 kz:z<k
 kq:q<k
 c1:w0.cell? ⟨z,1,none⟩=some (.slice (some ⟨q,o,none⟩) 2 c)
 c2:w0.cell? ⟨q,o,none⟩=some (.int .i64 a)
 c3:w0.cell? ⟨q,o+1,none⟩=some (.int .i64 b)
theorem Uq.conj {k z q o c:Nat}{w0 x:World}{a b:Int}(h:Uq k w0 z q o c a b x):x.cell? ⟨z,1,none⟩=some (.slice (some ⟨q,o,none⟩) 2 c)/\x.cell? ⟨q,o,none⟩=some (.int .i64 a)/\x.cell? ⟨q,o+1,none⟩=some (.int .i64 b):=
 ⟨(h.bl.cell (p:=⟨z,1,none⟩) h.kz).trans h.c1,(h.bl.cell (p:=⟨q,o,none⟩) h.kq).trans h.c2,(h.bl.cell (p:=⟨q,o+1,none⟩) h.kq).trans h.c3⟩
theorem Uq.alloc {k z q o c:Nat}{w0 x:World}{a b:Int}(h:Uq k w0 z q o c a b x)(ob:Obj):Uq k w0 z q o c a b (x.alloc ob):=⟨h.bl.alloc h.kx _,by have:=h.kx;simp;omega,h.kz,h.kq,h.c1,h.c2,h.c3⟩
theorem Uq.drew {k z q o c:Nat}{w0 x:World}{a b:Int}(h:Uq k w0 z q o c a b x):Uq k w0 z q o c a b x.drew:=⟨h.bl.drew,h.kx,h.kz,h.kq,h.c1,h.c2,h.c3⟩
section
variable {w:World} {B:Nat} {V:TV} {T:Gm.Tab}
theorem VK (h:j_ w B V T)(hB:B<=w.heap.size):Calls Tryz.prog 134 #[kF V] w fun e w'=>e=.returned (.bool true)/\Below w.heap.size w w':=by
 have F0:=jP (Fr.start h hB);clear h hB;have hn:V.dec.n<=5:=by have:=F0.1.tb.good.Fz;have:=F0.1.tb.dec.1;omega
 have yY:=jP (PB.made (w.alloc (.cells (kK V) 26)));have F1:=jP (F0.1.alloc (.map #[] 0));have ny:=jP F1.1.tb.dec;have hz:(w.alloc (.cells (kK V) 26)).heap.size=w.heap.size+1:=by simp
 rw[hz] at yY;have hmm:=@run_makeMap Tryz.prog;have x9:((w.alloc (.cells (kK V) 26)).alloc (.map #[] 0)).cell? ⟨w.heap.size,9,none⟩=some (.slice V.dec.A V.dec.n V.dec.c):=F1.1.bx.cell 9;clear hz;obtain⟨A,hA⟩:∃ A,A=V.dec.A:=⟨_,rfl⟩;rw[<-hA] at ny x9;clear hA;go_enter Tryz.func134,Tryz.ntmps134
 go_wp2_with fail
 clear x9 hmm;generalize hw1:(w.alloc (.cells (kK V) 26)).alloc (.map #[] 0)=w1 at *;have ag_:w1.heap.size=w.heap.size+2:=by rw[<-hw1];simp
 have HW:=jP ag_;clear hw1 F0 ag_;go_loopw [11] (fun i wr=>∃ k:Nat,k<=V.dec.n/\i=.int .i64 k/\PB wr (w.heap.size+1) k (Gm.seen T k)/\Below (w.heap.size+1) w1 wr) (fun i _=>V.dec.n-(intOf i).toNat)
 case atStart=>exact⟨0,by omega,rfl,yY.1.congr (fun _ _=>rfl),ai _ _⟩
 case round=>
  obtain⟨j,hj,rfl,hpb,hbr⟩:=hrel;have HI:=jP hbr;have xM:=jP hpb;have F2:=jP (F1.1.wK hbr (ag _));clear hbr hpb;by_cases hjn:j<V.dec.n
  ·obtain⟨b,off,m,A',c',rfl,hbB,hs,g0,g1,g2⟩:=rU (ny.1.below (HI.1.mono (by have:=F1.1.hB;omega))) hjn;have hm:=ay hs;have HD:=jP (F2.1.tb.good.dec m hm);have F3:=jP (F2.1.alloc (.cells #[.int .i64 m.f,.slice A' m.to.length c'] 89));have HX:=jP (Bk.new wr 89 #[.int .i64 m.f,.slice A' m.to.length c']);have HT:=jP (g2.alloc F2.1.hx (.cells #[.int .i64 m.f,.slice A' m.to.length c'] 89));have I8:=jP (xM.1.at_ (w':=wr.alloc (.cells #[.int .i64 m.f,.slice A' m.to.length c'] 89)) (iy wr _ _ xM.1.lt));have HI3:=jP (HI.1.alloc (show w.heap.size+1<=wr.heap.size from F2.1.sz) (.cells #[.int .i64 m.f,.slice A' m.to.length c'] 89));have Ku:=jP (fun a b=>Gm.Yl hs a b);have RQ:=jP (fun hc a b hto=>Gm.aeN F2.1.tb.good hs hc (a:=a) (b:=b) hto);have RZ:=jP (fun a b hto=>Gm.U9 F2.1.tb.good hm (a:=a) (b:=b) hto);obtain⟨x0,x1,x2,x3,x4,x5,x6,x7,x8,x9,x10,x11⟩:=F3.1.cells;have hzx:=F2.1.sz;have hgl:=xM.1.lt;clear hs g2 hm;go_wp2_with fail
   generalize hwo:wr.alloc (.cells #[.int .i64 m.f,.slice A' m.to.length c'] 89)=wp at *;have hwz:wr.heap.size<wp.heap.size:=HX.1.lt;clear hwo g0 g1 x0 x1 x2 x3 x4 x5 x6 x7 x8 x9 x10 x11;generalize wr.heap.size=z at *;refine (QS (B:=B) (V:=V) (T:=T) HD.1 A' m.to.length c' _ F3.1.tb F3.1.hx HT.1).mono ?_;rintro e w4 ⟨rfl,hb4⟩;have F5:=jP (F3.1.step hb4);have ug:=jP (HX.1.below hb4 hwz);have FT:=jP (HT.1.below (hb4.mono F3.1.hx));have I7:=jP (I8.1.below hb4 I8.1.lt);have kY:=jP (HI3.1.trans (hb4.mono (by have:=F3.1.sz;omega)));clear hb4 xM I8 HI HI3 HX HT F3;cases hc:Gm.mO T m with
   | false=>
    have HE:=jP (I7.1.congr (f':=Gm.seen T (j+1)) (fun a b=>by rw[Ku.1,hc];simp));clear hc Ku RQ;go_wp2_with fail
    go_roundw
    case rel=>exact⟨j+1,by omega,by go_num,by obtain⟨D,q1,q2⟩:=HE.1;exact⟨D,q1.mono (jJ _),q2⟩,kY.1⟩
    case measure=>simp[intOf];omega
   | true=>
    obtain⟨a,bb,hto⟩:=Gm.Ec hc;obtain⟨Qu,hb64,aco⟩:=RZ.1 a bb hto;have hno:=RQ.1 hc a bb hto;have adg:=jP (show ∀ x y,(decide (x=a/\y=bb)||Gm.seen T j x y)=Gm.seen T (j+1) x y from fun x y=>by
     rw[Ku.1,hc,hto,Bool.or_comm];congr 1
     rw[gu];simp only[iq,dA,dG,iJ,and_true,true_and];omega)
    have y1:w4.cell? ⟨z,1,none⟩=some (.slice A' m.to.length c'):=ug.1.cell 1;have zD:=FT.1;rw[hto] at y1 zD;obtain⟨q,o,e,hqB,hcc⟩:=zD.2 (by simp[ints]);have AQ:q<w4.heap.size:=by have:=F5.1.hx;omega
    subst e;have y2:w4.cell? ⟨q,o,none⟩=some (.int .i64 a):=hcc 0 _ rfl;have y3:w4.cell? ⟨q,o+1,none⟩=some (.int .i64 bb):=hcc 1 _ rfl;have e2:[a,bb].length=2:=rfl;rw[e2] at y1;have HA:=jP Qu;have HB:=jP hb64;have HN:=jP hno;have h4z:=F5.1.sz;have BU:z<w4.heap.size:=ug.1.lt;have hg4:=I7.1.lt;clear hc Ku RQ hto FT zD hcc e2 Qu hb64 hno RZ ug aco;go_upto_region 6 with (fail)
    have hu1:Uq w4.heap.size w4 z q o c' a bb w4:=⟨ai _ _,ag _,by omega,AQ,y1,y2,y3⟩;have hu0:=hu1.drew;clear y1 y2 y3;refine aI (S:=Uq w4.heap.size w4 z q o c' a bb) (by kernel_rfl) hu0 (fun hHeld=>?_);refine tk 0 ?_;refine tk 1 ?_;refine tk 2 ?_;refine tk 3 ?_;refine tk 4 ?_;refine tk 5 ?_;refine tk 6 ?_;refine tk 7 ?_;refine tk 8 ?_;refine rc 9 fun K hK=>?_;go_simp
    refine rk hK (hu0.alloc _) fun hHeld=>?_;clear hK K;refine rc 10 fun K hK=>?_;go_simp
    refine rk hK (hu1.alloc _).drew fun hHeld=>?_;clear hK K;refine aJ (by kernel_rfl) ?_ _;have adn:=jP (I7.1.at_ (w':=(w4.alloc (.cells #[.int .i64 a,.int .i64 bb] 242)).drew) (iy w4 _ _ hg4));have um:=jP ((kY.1.alloc (show w.heap.size+1<=w4.heap.size from h4z) (.cells #[.int .i64 a,.int .i64 bb] 242)).drew);have z0:((w4.alloc (.cells #[.int .i64 a,.int .i64 bb] 242)).drew).cell? ⟨w4.heap.size,0,none⟩=some (.int .i64 a):=(Bk.new w4 242 #[.int .i64 a,.int .i64 bb]).cell 0;have z1:((w4.alloc (.cells #[.int .i64 a,.int .i64 bb] 242)).drew).cell? ⟨w4.heap.size,1,none⟩=some (.int .i64 bb):=(Bk.new w4 242 #[.int .i64 a,.int .i64 bb]).cell 1;clear hu0 hu1 hHeld;generalize (w4.alloc (.cells #[.int .i64 a,.int .i64 bb] 242)).drew=w6 at *;have hlk:=adn.1.look HA.1 HB.1 (t:=240) Tryz.underlying240;rw[HN.1] at hlk;obtain⟨w7,hup,Qi,mV⟩:=adn.1.put (by omega) HA.1 HB.1 (t:=240) Tryz.underlying240;have adm:=jP (Qi.congr adg.1);have lN:=jP (um.1.grown mV (show w.heap.size+1<=w6.heap.size by have:=adn.1.lt;omega) (fun q hq=>by injection hq with hq;omega));clear Qi mV;go_wp2_with fail
    go_roundw
    case rel=>exact⟨j+1,by omega,by go_num,adm.1,lN.1⟩
    case measure=>simp[intOf];omega
  ·have HE:=jP (F2.1.bl);go_wp2_with fail
   go_ret
   exact⟨rfl,HE.1⟩
end
theorem Gm.afw {T:Gm.Tab}(h:Gm.Good T){c:Int}(hc:c∉Gm.nR):Gm.jW T c=false:=by
 unfold Gm.jW;rw[h.jW.out hc];rfl
theorem Gm.agO {T:Gm.Tab}(h:Gm.Good T){m:Gm.Mp}(hm:m∈T.jY):Gm.dec T m.f=none/\Gm.jW T m.f=false/\m.to.length<=2/\∀ c∈m.to,Gm.dec T c=none/\Gm.jW T c=false/\Hg.mF c=false/\Gm.pX T.jY c=none:=by
 obtain⟨h1,h2,h3⟩:=h.jY m hm;have h4:∀ m∈Gm.uS,m.f<7680/\m.to.length<=2/\∀ c∈m.to,c<7680/\Hg.mF c=false/\(c∉Gm.nR\/m.to.getLast?=some c)/\∀ p∈Gm.uS,p.f≠c:=by decide +kernel
 obtain⟨h5,h6,h7⟩:=h4 m h1;refine⟨h.Fv (.inl h5),h2,h6,fun c hc=>?_⟩;obtain⟨k1,k2,k3,k4⟩:=h7 c hc;refine⟨h.Fv (.inl k1),?_,k2,Gm.Qy fun p hp=>k4 p (h.jY p hp).1⟩;rcases k3 with k3 | k3
 ·exact Gm.afw h k3
 ·exact h3 c k3
section
variable {w:World} {B:Nat} {V:TV} {T:Gm.Tab}
theorem abI (h:j_ w B V T)(hB:B<=w.heap.size)(c:Int)(hn:Gm.pX T.jY c=none):Calls Tryz.prog 191 #[.slice V.jY.A V.jY.n V.jY.c,.int .i64 c] w fun e w'=>e=.returned (.slice none 0 0)/\Below w.heap.size w w':=
 (uZ _ _ _ T.jY c B _ h.jY hB (by have:=h.good.Pj;omega) h.good.abr).mono fun e w' he=>by
  rw[hn] at he;exact he.none_
theorem abJ (h:j_ w B V T)(hB:B<=w.heap.size)(c:Int)(hn:Gm.dec T c=none):Calls Tryz.prog 191 #[.slice V.dec.A V.dec.n V.dec.c,.int .i64 c] w fun e w'=>e=.returned (.slice none 0 0)/\Below w.heap.size w w':=
 (xZ h hB c).mono fun e w' he=>by
  rw[hn] at he;exact he.none_
theorem MI (h:j_ w B V T)(hB:B<=w.heap.size)(c:Int)(hd:Gm.dec T c=none)(hi:Gm.jW T c=false):Calls Tryz.prog 193 #[kF V,.int .i64 c] w fun e w'=>e=.returned (.bool true)/\Below w.heap.size w w':=by
 have F0:=jP (Fr.start h hB);clear h hB;have HD:=jP hd;have HI:=jP hi;clear hd hi;have hnn:=fun w:World=>jA (P:=Tryz.prog) w 22 3 none 0 0 0 0 bC;obtain⟨x0,x1,x2,x3,x4,x5,x6,x7,x8,x9,x10,x11⟩:=F0.1.cells;go_enter Tryz.func193,Tryz.ntmps193
 go_wp2_with fail
 clear x0 x1 x2 x3 x4 x5 x6 x7 x8 x9 x10 x11;refine (abJ F0.1.tb F0.1.hx c HD.1).mono ?_;rintro e w1 ⟨rfl,hb⟩;have F1:=jP (F0.1.step hb);clear hb F0;obtain⟨x0,x1,x2,x3,x4,x5,x6,x7,x8,x9,x10,x11⟩:=F1.1.cells;go_wp2_with fail
 clear x0 x1 x2 x3 x4 x5 x6 x7 x8 x9 x10 x11;refine (UQ F1.1.tb F1.1.hx c).mono ?_;rintro e w2 ⟨rfl,hb⟩;rw[HI.1];have F2:=jP (F1.1.step hb);clear hb F1;go_wp2_with fail
 go_ret
 exact⟨rfl,F2.1.bl⟩
theorem KW (h:j_ w B V T)(hB:B<=w.heap.size):Calls Tryz.prog 135 #[kF V] w fun e w'=>e=.returned (.bool true)/\Below w.heap.size w w':=by
 have F0:=jP (Fr.start h hB);clear h hB;have ny:=jP F0.1.tb.jY;have hn:(V.jY.n:Int)<=5:=by have:=F0.1.tb.good.Pj;have:=F0.1.tb.jY.1;omega
 obtain⟨x0,x1,x2,x3,x4,x5,x6,x7,x8,x9,x10,x11⟩:=F0.1.cells;go_enter Tryz.func135,Tryz.ntmps135
 go_wp2_with fail
 clear x0 x1 x2 x3 x4 x5 x6 x7 x8 x9 x10 x11;generalize hw1:w.alloc (.cells (kK V) 26)=w1 at *;clear hw1;obtain⟨A,hA⟩:∃ A,A=V.jY.A:=⟨_,rfl⟩;rw[<-hA] at ny ⊢;clear hA;go_loopw [10] (fun i wr=>∃ k:Nat,k<=V.jY.n/\i=.int .i64 k/\Below w1.heap.size w1 wr) (fun i _=>V.jY.n-(intOf i).toNat)
 case atStart=>exact⟨0,by omega,rfl,ai _ _⟩
 case round=>
  obtain⟨j,hj,rfl,hbr⟩:=hrel;have HI:=jP hbr;clear hbr;by_cases hjn:j<V.jY.n
  ·obtain⟨b,off,m,A',c',rfl,hbB,hs,g0,g1,g2⟩:=rU (ny.1.below (HI.1.mono F0.1.hx)) hjn;obtain⟨k0,k1,k2,k3⟩:=Gm.agO F0.1.tb.good (ay hs);have F3:=jP ((F0.1.step HI.1).alloc (.cells #[.int .i64 m.f,.slice A' m.to.length c'] 89));have uo:=jP (HI.1.alloc HI.1.size (.cells #[.int .i64 m.f,.slice A' m.to.length c'] 89));have HT:=jP (g2.alloc (show B<=wr.heap.size by have:=HI.1.size;have:=F0.1.hx;omega) (.cells #[.int .i64 m.f,.slice A' m.to.length c'] 89));have HX:=jP (Bk.new wr 89 #[.int .i64 m.f,.slice A' m.to.length c']);have K0:=jP k0;have K1:=jP k1;have K3:=jP k3;have hzx:=(F0.1.step HI.1).sz;clear hs g2 k0 k1 k3;obtain⟨x0,x1,x2,x3,x4,x5,x6,x7,x8,x9,x10,x11⟩:=F3.1.cells;go_wp2_with fail
   clear x0 x1 x2 x3 x4 x5 x6 x7 x8 x9 x10 x11 g0 g1;generalize hwo:wr.alloc (.cells #[.int .i64 m.f,.slice A' m.to.length c'] 89)=wp at *;have hwp:w1.heap.size<=wp.heap.size:=uo.1.size;have hwz:wr.heap.size<wp.heap.size:=HX.1.lt;clear hwo;generalize wr.heap.size=z at *;refine (MI F3.1.tb F3.1.hx m.f K0.1 K1.1).mono ?_;rintro e w4 ⟨rfl,hb4⟩;have F5:=jP (F3.1.step hb4);have FT:=jP (HT.1.below (hb4.mono F3.1.hx));have Su:=jP (uo.1.trans (hb4.mono hwp));have g1:w4.cell? ⟨z,1,none⟩=some (.slice A' m.to.length c'):=(HX.1.below hb4 hwz).cell 1;clear hb4 F3 HX HT uo;generalize hq:m.to=q at *;clear hq;generalize hmm:q.length=t at *;clear hmm;go_wp2_with fail
   clear g1;go_loopw [22] (fun i wi=>∃ (p:Nat),p<=t/\i=.int .i64 p/\Below w4.heap.size w4 wi) (fun i _=>t-(intOf i).toNat)
   case atStart=>exact⟨0,by omega,rfl,ai _ _⟩
   case round=>
    obtain⟨p,hp,rfl,hbp⟩:=hrel;have HP:=jP hbp;have F6:=jP (F5.1.step hbp);clear hbp;by_cases hpt:p<t
    ·obtain⟨b5,WB,c5,rfl,hb5,AX,Ff⟩:=jZ (FT.1.below (HP.1.mono F5.1.hx)) hpt;obtain⟨s0,s1,s2,s3⟩:=K3.1 c5 (ay AX);have S0:=jP s0;have S1:=jP s1;have S3:=jP s3;have HU:=jP (Gs c5);rw[s2] at HU;clear AX s0 s1 s2 s3;obtain⟨x0,x1,x2,x3,x4,x5,x6,x7,x8,x9,x10,x11⟩:=F6.1.cells;go_wp2_with fail
     clear x0 x1 x2 x3 x4 x5 x6 x7 x8 x9 x10 x11 Ff;refine (MI F6.1.tb F6.1.hx c5 S0.1 S1.1).mono ?_;rintro e w7 ⟨rfl,hb7⟩;have F7:=jP (F6.1.step hb7);have qf:=jP (HP.1.trans (hb7.mono HP.1.size));have x11:w7.cell? ⟨w.heap.size,11,none⟩=some (.slice V.jY.A V.jY.n V.jY.c):=F7.1.bx.cell 11;clear hb7 F6;go_wp2_with (go_at_call 188;refine (HU.1 _).mono ?_;rintro e w' ⟨rfl,rfl⟩)
     clear x11;refine (abI F7.1.tb F7.1.hx c5 S3.1).mono ?_;rintro e w8 ⟨rfl,hb8⟩;have HP8:=jP (qf.1.trans (hb8.mono qf.1.size));have hnn:=fun w:World=>run_neq_nil_slice (P:=Tryz.prog) w 22 3 none 0 0 0 0 bC;clear hb8;go_wp2_with fail
     go_roundw
     case rel=>exact⟨p+1,by omega,by go_num,HP8.1⟩
     case measure=>simp[intOf];omega
    ·obtain rfl:p=t:=by omega
     have HE:=jP (Su.1.trans (HP.1.mono Su.1.size));go_wp2_with fail
     go_roundw
     case rel=>exact⟨j+1,by omega,by go_num,HE.1⟩
     case measure=>simp[intOf];omega
  ·have HE:=jP (F0.1.step HI.1).bl;go_wp2_with fail
   go_ret
   exact⟨rfl,HE.1⟩
end
def yK:Array Value:=#[.func (.func 127) #[] #[],.func (.func 128) #[] #[],.func (.func 129) #[] #[],.func (.func 130) #[] #[],.func (.func 131) #[] #[],.func (.func 132) #[] #[],.func (.func 133) #[] #[],.func (.func 134) #[] #[],.func (.func 135) #[] #[]]
def ah6 (f:FuncId):Prop:=∀ (w:World) (B:Nat) (V:TV) (T:Gm.Tab),j_ w B V T->B<=w.heap.size->Calls Tryz.prog f #[kF V] w fun e w'=>e=.returned (.bool true)/\Below w.heap.size w w'
theorem aeS (k:Nat)(h:k<9):∃ f,yK[k]?=some (.func (.func f) #[] #[])/\(∀ args w,(callFunc f args).run Tryz.prog w=.ok (.enter f args) w)/\ah6 f:=by
 match k,h with
 | 0,_=>exact⟨_,rfl,fA Tryz.func127 (by kernel_rfl) rfl,fun _ _ _ _=>abg⟩
 | 1,_=>exact⟨_,rfl,fA Tryz.func128 (by kernel_rfl) rfl,fun _ _ _ _=>Yk⟩
 | 2,_=>exact⟨_,rfl,fA Tryz.func129 (by kernel_rfl) rfl,fun _ _ _ _=>VJ⟩
 | 3,_=>exact⟨_,rfl,fA Tryz.func130 (by kernel_rfl) rfl,fun _ _ _ _=>SH⟩
 | 4,_=>exact⟨_,rfl,fA Tryz.func131 (by kernel_rfl) rfl,fun _ _ _ _=>WM⟩
 | 5,_=>exact⟨_,rfl,fA Tryz.func132 (by kernel_rfl) rfl,fun _ _ _ _=>LD⟩
 | 6,_=>exact⟨_,rfl,fA Tryz.func133 (by kernel_rfl) rfl,fun _ _ _ _=>QB⟩
 | 7,_=>exact⟨_,rfl,fA Tryz.func134 (by kernel_rfl) rfl,fun _ _ _ _=>VK⟩
 | 8,_=>exact⟨_,rfl,fA Tryz.func135 (by kernel_rfl) rfl,fun _ _ _ _=>KW⟩
section
variable {w:World} {B:Nat} {V:TV} {T:Gm.Tab}
theorem DK (h:j_ w B V T)(hB:B<=w.heap.size):Calls Tryz.prog 78 #[kF V] w fun e w'=>e=.returned (.int .i64 0)/\Below w.heap.size w w':=by
 have F0:=jP ((Fr.start h hB).alloc (.cells yK 187));clear h hB;have HG:=jP (l_ w (.cells (kK V) 26) 187 yK);go_enter Tryz.func78,Tryz.ntmps78
 go_wp2_with fail
 have hsz:((w.alloc (.cells (kK V) 26)).alloc (.cells yK 187)).heap.size=w.heap.size+2:=by simp
 have H7:=jP hsz;clear hsz;go_loopw [7] (fun i wr=>∃ k:Nat,k<=9/\i=.int .i64 k/\Below (w.heap.size+2) ((w.alloc (.cells (kK V) 26)).alloc (.cells yK 187)) wr) (fun i _=>9-(intOf i).toNat)
 case atStart=>exact⟨0,by omega,rfl,ai _ _⟩
 case round=>
  obtain⟨k,hk,rfl,hbr⟩:=hrel;have HR:=jP hbr;have F1:=jP (F0.1.wK hbr (by omega));clear hbr;by_cases hlt:k<9
  ·obtain⟨f,hf,he,hc⟩:=aeS k hlt;have HC:=jP hc;have h0:=((HG.1.below HR.1 (by omega)).cell k).trans hf;obtain⟨x0,x1,x2,x3,x4,x5,x6,x7,x8,x9,x10,x11⟩:=F1.1.cells;clear hf hc;go_wp2_with fail
   clear x0 x1 x2 x3 x4 x5 x6 x7 x8 x9 x10 x11;refine (HC.1 _ B V T F1.1.tb F1.1.hx).mono ?_;rintro e w3 ⟨rfl,hb3⟩;have HR3:=jP (HR.1.trans (hb3.mono (by have:=HR.1.size;have:=H7.1;omega)));clear hb3 h0;go_wp2_with fail
   go_roundw
   case rel=>exact⟨k+1,by omega,by go_num,HR3.1⟩
   case measure=>simp[intOf];omega
  ·go_wp2_with fail
   go_ret
   exact⟨rfl,F1.1.bl⟩
end
end Go.Proofs.YtkachcflifhgiaaGreatDoor
