/-  -/
import Derived.Test.YtkachcflifhgiaaGreatDoorM15
import Derived.Test.YtkachcflifhgiaaGreatDoorRgnZ
set_option linter.unusedVariables false
set_option maxRecDepth 100000
set_option maxHeartbeats 16000000
namespace Go.Proofs.YtkachcflifhgiaaGreatDoor
open Go Go.RowKit Go.Shelf Go.Proofs
theorem Gm.afo {T:Gm.Tab}(h:Gm.Good T):∀ (n:Nat) (c:Int),Gm.rk c<n->∀ m,Gm.rk c<m->Gm.kN T m c=Gm.kN T n c:=by
 intro n;induction n with
 | zero=>intro c hc;omega
 | succ n ih=>
  intro c hc m hm;obtain⟨m,rfl⟩:∃ k,m=k+1:=⟨m-1,by omega⟩;unfold Gm.kN;cases hd:Gm.dec T c with
  | none=>rfl
  | some l=>
   have hD:=h.sV hd;have hl:l.getLastD c∈l:=by
    rw[iU];cases hg:l.getLast? with
    | none=>rw[List.getLast?_eq_none_iff] at hg;exact absurd hg hD.ne.1
    | some d=>exact List.mem_of_getLast? hg
   have:=hD.rk _ hl;simp only at this;show Gm.kN T m (l.getLastD c)=Gm.kN T n (l.getLastD c);exact ih _ (by omega) m (by omega)
theorem Gm.last_none {T:Gm.Tab}{c:Int}(hd:Gm.dec T c=none):Gm.kN T 6 c=c:=by
 show Gm.kN T (5+1) c=_;unfold Gm.kN;rw[hd]
theorem Gm.Y1 {T:Gm.Tab}(h:Gm.Good T){c:Int}{l:List Int}(hd:Gm.dec T c=some l){d:Int}(hl:l.getLast?=some d):Gm.kN T 6 c=Gm.kN T 6 d/\Gm.rk d<Gm.rk c:=by
 have hr:=(h.sV hd).rk d (List.mem_of_getLast? hl);simp only at hr;have hc:=Gm.wL c;refine⟨?_,hr⟩;show Gm.kN T (5+1) c=_;conv=>lhs;unfold Gm.kN
 rw[hd];simp only;rw[iU,hl];exact Gm.afo h 6 d (by omega) 5 (by omega)
section
variable {w:World} {B:Nat} {V:TV} {T:Gm.Tab}
def NC (T:Gm.Tab)(B:Nat)(c:Int)(v:Value)(w:World):Prop:=
 match Gm.dec T c with
 | none=>v=.slice none 0 0
 | some q=>∃ b off cc,v=.slice (some ⟨b,off,none⟩) q.length cc/\Rd w B 1 (some ⟨b,off,none⟩) q.length (ints q)
theorem NC.of {T:Gm.Tab}{B:Nat}{c:Int}{w w':World}{e:Ending}(hT:Gm.Good T)(h:I_ B (Gm.dec T c) w e w')(hB:B<=w.heap.size):∃ v,e=.returned v/\NC T B c v w':=by
 unfold NC;cases hd:Gm.dec T c with
 | none=>rw[hd] at h;exact⟨_,h.none_.1,rfl⟩
 | some q=>
  rw[hd] at h;obtain⟨b,off,cc,he,_,hr,hb⟩:=h.some_ (hT.sV hd).ne.1;exact⟨_,he,b,off,cc,rfl,hr.below (hb.mono hB)⟩
theorem last_any (h:j_ w B V T)(hB:B<=w.heap.size)(c:Int):Calls Tryz.prog 244 #[kF V,.int .i64 c] w fun e w'=>e=.returned (.int .i64 (Gm.kN T 6 c))/\Below w.heap.size w w':=by
 have F0:=jP (Fr.start h hB);clear h hB;obtain⟨x0,x1,x2,x3,x4,x5,x6,x7,x8,x9,x10,x11⟩:=F0.1.cells;go_enter Tryz.func244,Tryz.ntmps244
 go_wp2_with fail
 clear x0 x1 x2 x3 x4 x5 x6 x7 x8 x9 x10 x11;refine (xZ F0.1.tb F0.1.hx c).mono ?_;intro e w1 he;have hb1:=he.1;obtain⟨v,rfl,hv⟩:=NC.of F0.1.tb.good he F0.1.hx;have F1:=jP (F0.1.step hb1);have HV:=jP hv;clear hb1 hv he F0;go_wp2_with fail
 go_loopw [1,5] (fun vc vl wr=>∃ (d:Int),vc=.int .i64 d/\NC T B d vl wr/\Gm.kN T 6 c=Gm.kN T 6 d/\Below w1.heap.size w1 wr) (fun vc _ _=>Gm.rk (intOf vc))
 case atStart=>exact⟨c,rfl,HV.1,rfl,ai _ _⟩
 case round=>
  obtain⟨d,rfl,hv,hl,hbr⟩:=hrel;have HI:=jP hbr;have F2:=jP (F1.1.step hbr);have HL:=jP hl;clear hbr hl;cases hd:Gm.dec T d with
  | none=>
   unfold NC at hv;rw[hd] at hv;simp only at hv;subst hv;have HD:=jP (Gm.last_none hd);have hnn:=fun w:World=>run_neq_nil_slice (P:=Tryz.prog) w 22 3 none 0 0 0 0 bC;clear hd;go_wp2_with fail
   go_ret
   exact⟨by rw[HL.1,HD.1];rfl,F2.1.bl⟩
  | some l=>
   unfold NC at hv;rw[hd] at hv;obtain⟨b,off,cc,rfl,hr⟩:=hv;have hD:=F2.1.tb.good.sV hd;have hne:=hD.ne;simp only at hne;obtain⟨j,hj⟩:∃ j,l.length=j+1:=⟨l.length-1,by have:=dK.2 hne.1;omega⟩;obtain⟨x,hx⟩:∃ x,l.getLast?=some x:=by
    cases hg:l.getLast? with
    | none=>rw[List.getLast?_eq_none_iff] at hg;exact absurd hg hne.1
    | some x=>exact⟨x,rfl⟩
   have hxj:l[j]?=some x:=by rw[<-hx,iV,hj];rfl
   obtain⟨e1,e2⟩:=Gm.Y1 F2.1.tb.good hd hx;have HLX:=jP (HL.1.trans e1);have hcell:wr.cell? ⟨b,off+j,none⟩=some (.int .i64 x):=by
    obtain⟨b2,off2,e3,_,hc⟩:=hr.2 (by rw[kH];omega);injection e3 with e3;injection e3 with e3 e4;subst e3;subst e4
    exact hc j _ (by rw[ints_at,hxj];rfl)
   have hj2:j+1<=2:=by have:=hne.2;omega
   have F_:=jP (fun w (h:j_ w B V T) hB=>xZ h hB x);rw[hj];have x9:wr.cell? ⟨w.heap.size,9,none⟩=some (.slice V.dec.A V.dec.n V.dec.c):=F2.1.bx.cell 9;have hnn:=fun w:World=>run_neq_slice_nil_any (P:=Tryz.prog) w 22 3 (some ⟨b,off,none⟩) (j+1) cc 0 0 bC;clear hd hD hne hj hx hxj e1 hr HL;go_wp2_with fail
   clear x9 hcell hnn;refine (F_.1 _ F2.1.tb F2.1.hx).mono ?_;intro e w4 he;have hb4:=he.1;obtain⟨v,rfl,hv⟩:=NC.of F2.1.tb.good he F2.1.hx;have HI4:=jP (HI.1.trans (hb4.mono HI.1.size));have HV:=jP hv;clear hb4 hv he;go_wp2_with fail
   go_roundw
   case rel=>exact⟨x,rfl,HV.1,HLX.1,HI4.1⟩
   case measure=>simp[intOf];omega
end
theorem Gm.acX {T:Gm.Tab}(h:Gm.Good T):∀ (n:Nat) (m:Gm.Mp),Gm.qN m->Gm.rk m.f<n->∀ k,Gm.rk m.f<k->Gm.yC T k m=Gm.yC T n m:=by
 intro n;induction n with
 | zero=>intro m _ hc;omega
 | succ n ih=>
  intro m hD hc k hk;obtain⟨k,rfl⟩:∃ j,k=j+1:=⟨k-1,by omega⟩;unfold Gm.yC;obtain⟨f,q⟩:=m;match q,hD with
  | [],hD=>rfl
  | [a],hD=>rfl
  | [a,b],hD=>
   simp only;cases hd:Gm.dec T a with
   | none=>rfl
   | some l=>
    have h1:=h.sV hd;have h2:=hD.rk a (by simp);simp only at h2 hc hk;simp only;rw[ih ⟨a,l⟩ h1 (by simp only;omega) k (by simp only;omega)]
  | a::b::c::r,hD=>rfl
theorem Gm.af8 {T:Gm.Tab}(hT:Gm.Good T){f a b:Int}(hD:Gm.qN ⟨f,[a,b]⟩):Gm.mO T ⟨f,[a,b]⟩=(!Gm.exc T f&&decide (Gm.cls T f=0)&&decide (Gm.cls T a=0)&&(match Gm.dec T a with
   | none=>true
   | some l=>Gm.mO T ⟨a,l⟩)&&(decide (Gm.cls T b=0)||decide (Gm.cls T (Gm.kN T 6 a)<=Gm.cls T b))):=by
 have hb:Gm.dec T b=none:=by
  obtain⟨_,_,_,_,ht⟩:=hD;rcases ht with e | ⟨k,e,hk⟩
  ·simp at e
  ·injection e with _ e;injection e with e _
   subst e;have:∀ k∈([769,776,803,837,945]:List Int),k<7680:=by decide
   exact hT.Fv (.inl (this b hk))
 show Gm.yC T (5+1) _=_;conv=>lhs;unfold Gm.yC
 simp only[hb];cases hd:Gm.dec T a with
 | none=>simp
 | some l=>
  have h1:=hT.sV hd;have h2:=hD.rk a (by simp);have:=Gm.wL f;simp only at h2;have h3:Gm.yC T 5 ⟨a,l⟩=Gm.mO T ⟨a,l⟩:=Gm.acX hT 6 ⟨a,l⟩ h1 (by simp only;omega) 5 (by simp only;omega);simp only[h3];simp
theorem Gm.QO {T:Gm.Tab}{f a:Int}:Gm.mO T ⟨f,[a]⟩=false:=rfl
structure Cq (w:World)(V:TV)(T:Gm.Tab)(B:Nat)(f a b:Int)(q o c:Nat)(x:World):Prop where
 fr:Fr w V T B x
 mb:Bk x (w.heap.size+1) 89 #[.int .i64 f,.slice (some ⟨q,o,none⟩) 2 c]
 rd:Rd x B 1 (some ⟨q,o,none⟩) 2 (ints [a,b])
section
variable {w x y:World} {V:TV} {T:Gm.Tab} {B:Nat} {f a b:Int} {q o c:Nat}
theorem Cq.step (h:Cq w V T B f a b q o c x)(hb:Below x.heap.size x y):Cq w V T B f a b q o c y:=
 ⟨h.fr.step hb,h.mb.below hb h.mb.lt,h.rd.below (hb.mono h.fr.hx)⟩
theorem Cq.drew (h:Cq w V T B f a b q o c x):Cq w V T B f a b q o c x.drew:=h.step ((ai _ _).drew)
theorem Cq.conj (h:Cq w V T B f a b q o c x):x.cell? ⟨w.heap.size,0,none⟩=some (.slice V.cat.A V.cat.n V.cat.c)/\x.cell? ⟨w.heap.size,1,none⟩=some (.slice V.cls.A V.cls.n V.cls.c)/\x.cell? ⟨w.heap.size,2,none⟩=some (.slice V.ku.A V.ku.n V.ku.c)/\x.cell? ⟨w.heap.size,3,none⟩=some (.slice V.jX.A V.jX.n V.jX.c)/\x.cell? ⟨w.heap.size,4,none⟩=some (.slice V.scr.A V.scr.n V.scr.c)/\x.cell? ⟨w.heap.size,5,none⟩=some (.slice V.jU.A V.jU.n V.jU.c)/\x.cell? ⟨w.heap.size,6,none⟩=some (.slice V.jW.A V.jW.n V.jW.c)/\x.cell? ⟨w.heap.size,7,none⟩=some (.slice V.ext.A V.ext.n V.ext.c)/\x.cell? ⟨w.heap.size,8,none⟩=some (.slice V.maps.A V.maps.n V.maps.c)/\x.cell? ⟨w.heap.size,9,none⟩=some (.slice V.dec.A V.dec.n V.dec.c)/\x.cell? ⟨w.heap.size,10,none⟩=some (.slice V.exc.A V.exc.n V.exc.c)/\x.cell? ⟨w.heap.size,11,none⟩=some (.slice V.jY.A V.jY.n V.jY.c)/\x.cell? ⟨w.heap.size+1,0,none⟩=some (.int .i64 f)/\x.cell? ⟨w.heap.size+1,1,none⟩=some (.slice (some ⟨q,o,none⟩) 2 c)/\x.cell? ⟨q,o,none⟩=some (.int .i64 a)/\x.cell? ⟨q,o+1,none⟩=some (.int .i64 b):=by
 have h1:=h.fr.cells;obtain⟨q',o',e,_,hc⟩:=h.rd.2 (by simp[ints]);injection e with e;injection e with e1 e2;subst e1;subst e2
 have c0:x.cell? ⟨q,o,none⟩=some (.int .i64 a):=hc 0 _ rfl;have c1:x.cell? ⟨q,o+1,none⟩=some (.int .i64 b):=hc 1 _ rfl;obtain⟨x0,x1,x2,x3,x4,x5,x6,x7,x8,x9,x10,x11⟩:=h1;exact⟨x0,x1,x2,x3,x4,x5,x6,x7,x8,x9,x10,x11,h.mb.cell 0,h.mb.cell 1,c0,c1⟩
theorem ajQ {k:Int}{r:Bool}(hr:Gm.exc T k=r)(h:Cq w V T B f a b q o c x):Calls Tryz.prog 243 #[kF V,.int .i64 k] x fun e x'=>e=.returned (.bool r)/\Cq w V T B f a b q o c x':=
 (afQ h.fr.tb h.fr.hx k).mono fun e x' ⟨he,hb⟩=>⟨by rw[he,hr],h.step hb⟩
theorem GM {k:Int}{r:Int}(hr:Gm.cls T k=r)(h:Cq w V T B f a b q o c x):Calls Tryz.prog 200 #[kF V,.int .i64 k] x fun e x'=>e=.returned (.int .i64 r)/\Cq w V T B f a b q o c x':=
 (LJ h.fr.tb h.fr.hx k).mono fun e x' ⟨he,hb⟩=>⟨by rw[he,hr],h.step hb⟩
theorem Y0 {k:Int}{r:Int}(hr:Gm.kN T 6 k=r)(h:Cq w V T B f a b q o c x):Calls Tryz.prog 244 #[kF V,.int .i64 k] x fun e x'=>e=.returned (.int .i64 r)/\Cq w V T B f a b q o c x':=
 (last_any h.fr.tb h.fr.hx k).mono fun e x' ⟨he,hb⟩=>⟨by rw[he,hr],h.step hb⟩
theorem adY {k:Int}(hr:Gm.dec T k=none)(h:Cq w V T B f a b q o c x):Calls Tryz.prog 191 #[.slice V.dec.A V.dec.n V.dec.c,.int .i64 k] x fun e x'=>e=.returned (.slice none 0 0)/\Cq w V T B f a b q o c x':=
 (xZ h.fr.tb h.fr.hx k).mono fun e x' he=>by
  rw[hr] at he;exact⟨he.none_.1,h.step he.none_.2⟩
theorem ajO {k:Int}{l:List Int}(hr:Gm.dec T k=some l)(hl:l≠[])(h:Cq w V T B f a b q o c x):Calls Tryz.prog 191 #[.slice V.dec.A V.dec.n V.dec.c,.int .i64 k] x fun e x'=>∃ b4 o4 c4,e=.returned (.slice (some ⟨b4,o4,none⟩) l.length c4)/\Rd x' B 1 (some ⟨b4,o4,none⟩) l.length (ints l)/\Cq w V T B f a b q o c x':=
 (xZ h.fr.tb h.fr.hx k).mono fun e x' he=>by
  rw[hr] at he;obtain⟨b4,o4,c4,h1,_,h3,h4⟩:=he.some_ hl;exact⟨b4,o4,c4,h1,h3.below (h4.mono h.fr.hx),h.step h4⟩
end
def KG (B:Nat)(V:TV)(T:Gm.Tab)(m:Gm.Mp):Prop:=
 ∀ (A:Option Addr) (n c:Nat) (w:World),j_ w B V T->B<=w.heap.size->Rd w B 1 A n (ints m.to)->Calls Tryz.prog 192 #[kF V,.agg #[.int .i64 m.f,.slice A n c]] w fun e w'=>e=.returned (.bool (Gm.mO T m))/\Below w.heap.size w w'
section
variable {w:World} {B:Nat} {V:TV} {T:Gm.Tab} {f a b:Int} {q o c:Nat}
theorem acU (h:j_ w B V T)(hB:B<=w.heap.size)(hr:Rd w B 1 (some ⟨q,o,none⟩) 2 (ints [a,b])):Cq w V T B f a b q o c ((w.alloc (.cells (kK V) 26)).alloc (.cells #[.int .i64 f,.slice (some ⟨q,o,none⟩) 2 c] 89)):=
 ⟨(Fr.start h hB).alloc _,l_ _ _ _ _,hr.below ((mP w _ _).mono hB)⟩
theorem QO (A:Option Addr)(n c:Nat)(l:List Int)(w:World)(hn:n≠2)(hn2:n<=1000):Calls Tryz.prog 192 #[kF V,.agg #[.int .i64 f,.slice A n c]] w fun e w'=>e=.returned (.bool false)/\Below w.heap.size w w':=by
 have hb2:((n:Int) != 2)=true:=by rw[fK];omega
 have hb:=mP w (.cells (kK V) 26) (.cells #[.int .i64 f,.slice A n c] 89);have HB:=jP hb;have x1:=(l_ w (.cells (kK V) 26) 89 #[.int .i64 f,.slice A n c]).cell 1;clear hb hn;go_enter Tryz.func192,Tryz.ntmps192
 go_wp2_with fail
 go_quiet (fail)
 go_wp2_with fail
 go_ret
 exact⟨rfl,below_drewN HB.1 _⟩
theorem ahP {x:World}{A:Option Addr}{c4:Nat}{l:List Int}{r:Bool}(ih:KG B V T ⟨a,l⟩)(hr:Gm.mO T ⟨a,l⟩=r)(h:Cq w V T B f a b q o c x)(hd:Rd x B 1 A l.length (ints l)) :
  Calls Tryz.prog 192 #[kF V,.agg #[.int .i64 a,.slice A l.length c4]] x fun e x'=>e=.returned (.bool r)/\Cq w V T B f a b q o c x':=
 (ih A l.length c4 x h.fr.tb h.fr.hx hd).mono fun e x' ⟨he,hb⟩=>⟨by rw[he,hr],h.step hb⟩
theorem Ec {res:Bool}(hb:Gm.dec T b=none)(hD:∀ l,Gm.dec T a=some l->l≠[]/\KG B V T ⟨a,l⟩)(hR:res=(!Gm.exc T f&&decide (Gm.cls T f=0)&&decide (Gm.cls T a=0)&&(match Gm.dec T a with
   | none=>true
   | some l=>Gm.mO T ⟨a,l⟩)&&(decide (Gm.cls T b=0)||decide (Gm.cls T (Gm.kN T 6 a)<=Gm.cls T b))))
  (h:j_ w B V T) (hB:B<=w.heap.size) (hr:Rd w B 1 (some ⟨q,o,none⟩) 2 (ints [a,b])) :
  Calls Tryz.prog 192 #[kF V,.agg #[.int .i64 f,.slice (some ⟨q,o,none⟩) 2 c]] w fun e w'=>e=.returned (.bool res)/\Below w.heap.size w w':=by
 have hx0:=(acU (f:=f) (c:=c) h hB hr).drew;have Ii:=jP hb;have HD:=jP hD;have HR:=jP hR;obtain⟨r1,h1⟩:∃ r,Gm.exc T f=r:=⟨_,rfl⟩;obtain⟨r2,h2⟩:∃ r,Gm.cls T f=r:=⟨_,rfl⟩;obtain⟨r3,h3⟩:∃ r,Gm.cls T a=r:=⟨_,rfl⟩;obtain⟨k,h4⟩:∃ r,Gm.cls T b=r:=⟨_,rfl⟩;have HEX:=jP h1;have NU:=jP h2;have DD:=jP h3;have Gf:=jP h4;have hnn:=fun w:World=>run_neq_nil_slice (P:=Tryz.prog) w 22 3 none 0 0 0 0 bC;clear h hr hb hD hR h1 h2 h3 h4;go_enter Tryz.func192,Tryz.ntmps192
 go_upto_region 1 with (fail)
 generalize (w.alloc (.cells (kK V) 26)).alloc (.cells #[.int .i64 f,.slice (some ⟨q,o,none⟩) 2 c] 89)=w0 at *;refine aI (S:=(Cq w V T B f a b q o c)) (by kernel_rfl) hx0 (fun hHeld=>?_);refine tk 0 ?_;refine tk 1 ?_;refine tk 2 ?_;refine tk 3 ?_;refine tk 4 ?_;refine tk 5 ?_;refine tk 6 ?_;refine tk 7 ?_;refine rc 8 fun K hK=>?_;go_simp
 (refine (ajQ HEX.1 hx0).mono ?_;rintro e w1 ⟨rfl,hx1⟩)
 try go_wp2_with fail
 refine rk hK hx1 fun hHeld=>?_;clear hK K;clear hx0;cases r1 with
 | true=>
  refine tk 9 ?_;refine tk 10 ?_;refine tu 11 ?_;refine tu 12 ?_;refine tu 13 ?_;refine tu 14 ?_;refine tu 15 ?_;refine tk 16 ?_;refine tk 17 ?_;refine tu 18 ?_;refine tu 19 ?_;refine tu 20 ?_;refine tu 21 ?_;refine tu 22 ?_;refine tu 23 ?_;refine tu 24 ?_;refine tk 25 ?_;refine tk 26 ?_;refine tu 27 ?_;refine tu 28 ?_;refine tu 29 ?_;refine tu 30 ?_;refine tu 31 ?_;refine tu 32 ?_;refine tu 33 ?_;refine tu 34 ?_;refine tk 35 ?_;refine aJ (by kernel_rfl) ?_ _;go_wp2_with fail
  go_ret
  exact⟨by rw[HR.1];simp[HEX.1],hx1.fr.bl⟩
 | false=>
  refine tk 9 ?_;refine tk 10 ?_;refine tk 11 ?_;refine tk 12 ?_;refine tk 13 ?_;refine rc 14 fun K hK=>?_;go_simp
  (refine (GM NU.1 hx1).mono ?_;rintro e w2 ⟨rfl,hx2⟩)
  try go_wp2_with fail
  refine rk hK hx2 fun hHeld=>?_;clear hK K;clear hx1;by_cases hz:¬r2=0
  ·have e3:(r2 != 0)=true:=by simpa using hz
   have HZ:=jP hz;clear hz;refine tk 15 ?_;refine tk 16 ?_;refine tk 17 ?_;refine tu 18 ?_;refine tu 19 ?_;refine tu 20 ?_;refine tu 21 ?_;refine tu 22 ?_;refine tu 23 ?_;refine tu 24 ?_;refine tk 25 ?_;refine tk 26 ?_;refine tu 27 ?_;refine tu 28 ?_;refine tu 29 ?_;refine tu 30 ?_;refine tu 31 ?_;refine tu 32 ?_;refine tu 33 ?_;refine tu 34 ?_;refine tk 35 ?_;refine aJ (by kernel_rfl) ?_ _;go_wp2_with fail
   go_ret
   exact⟨by rw[HR.1];simp[HEX.1,NU.1,HZ.1],hx2.fr.bl⟩
  ·obtain rfl:r2=0:=by omega
   clear hz;refine tk 15 ?_;refine tk 16 ?_;refine tk 17 ?_;refine tk 18 ?_;refine tk 19 ?_;refine tk 20 ?_;refine tk 21 ?_;refine tk 22 ?_;refine rc 23 fun K hK=>?_;go_simp
   (refine (GM DD.1 hx2).mono ?_;rintro e w3 ⟨rfl,hx3⟩)
   try go_wp2_with fail
   refine rk hK hx3 fun hHeld=>?_;clear hK K;clear hx2;by_cases hz:¬r3=0
   ·have e3:(r3 != 0)=true:=by simpa using hz
    have HZ:=jP hz;clear hz;refine tk 24 ?_;refine tk 25 ?_;refine tk 26 ?_;refine tu 27 ?_;refine tu 28 ?_;refine tu 29 ?_;refine tu 30 ?_;refine tu 31 ?_;refine tu 32 ?_;refine tu 33 ?_;refine tu 34 ?_;refine tk 35 ?_;refine aJ (by kernel_rfl) ?_ _;go_wp2_with fail
    go_ret
    exact⟨by rw[HR.1];simp[HEX.1,NU.1,DD.1,HZ.1],hx3.fr.bl⟩
   ·obtain rfl:r3=0:=by omega
    clear hz;refine tk 24 ?_;refine tk 25 ?_;refine tk 26 ?_;refine tk 27 ?_;refine tk 28 ?_;refine tk 29 ?_;refine tk 30 ?_;refine tk 31 ?_;refine tk 32 ?_;refine rc 33 fun K hK=>?_;go_simp
    (refine (adY Ii.1 hx3).mono ?_;rintro e w4 ⟨rfl,hx4⟩)
    try go_wp2_with fail
    refine rk hK hx4 fun hHeld=>?_;clear hK K;clear hx3;refine tk 34 ?_;refine tk 35 ?_;refine aJ (by kernel_rfl) ?_ _;go_wp2_with fail
    have hy3:=hx4.drew;clear hx4;refine aI (S:=(Cq w V T B f a b q o c)) (by kernel_rfl) hy3 (fun hHeld=>?_);refine tk 0 ?_;refine tk 1 ?_;refine tk 2 ?_;refine tk 3 ?_;refine tk 4 ?_;refine tk 5 ?_;cases hd:Gm.dec T a with
    | none=>
     have DC:=jP hd;clear hd;refine rc 6 fun K hK=>?_;go_simp
     (refine (adY DC.1 hy3).mono ?_;rintro e w5 ⟨rfl,hx5⟩)
     try go_wp2_with fail
     refine rk hK hx5 fun hHeld=>?_;clear hK K;refine tk 7 ?_;refine aJ (by kernel_rfl) ?_ _;go_wp2_with fail
     clear hy3;have hy4:=hx5.drew;clear hx5;refine aI (S:=(Cq w V T B f a b q o c)) (by kernel_rfl) hy4 (fun hHeld=>?_);refine tk 0 ?_;refine tk 1 ?_;refine tk 2 ?_;refine tu 3 ?_;refine tu 4 ?_;refine tu 5 ?_;refine tu 6 ?_;refine tu 7 ?_;refine tu 8 ?_;refine tu 9 ?_;refine tu 10 ?_;refine tu 11 ?_;refine tk 12 ?_;refine aJ (by kernel_rfl) ?_ _;go_wp2_with fail
     have Qe:=hy4.drew;clear hy4;refine aI (S:=(Cq w V T B f a b q o c)) (by kernel_rfl) Qe (fun hHeld=>?_);refine tk 0 ?_;refine tk 1 ?_;refine tk 2 ?_;refine tk 3 ?_;refine tk 4 ?_;refine rc 5 fun K hK=>?_;go_simp
     (refine (GM Gf.1 Qe).mono ?_;rintro e w7 ⟨rfl,hx7⟩)
     try go_wp2_with fail
     refine rk hK hx7 fun hHeld=>?_;clear hK K;refine tk 6 ?_;refine aJ (by kernel_rfl) ?_ _;go_wp2_with fail
     have JL:=hx7.drew;clear hx7 Qe;by_cases hk:k=0
     ·subst hk;refine aI (S:=(Cq w V T B f a b q o c)) (by kernel_rfl) JL (fun hHeld=>?_);refine tk 0 ?_;refine tk 1 ?_;refine tk 2 ?_;refine tu 3 ?_;refine tu 4 ?_;refine tu 5 ?_;refine tu 6 ?_;refine tu 7 ?_;refine tu 8 ?_;refine tu 9 ?_;refine tu 10 ?_;refine tu 11 ?_;refine tu 12 ?_;refine tk 13 ?_;refine tk 14 ?_;refine aJ (by kernel_rfl) ?_ _;go_wp2_with fail
      go_ret
      exact⟨by rw[HR.1];simp[HEX.1,NU.1,DD.1,DC.1,Gf.1],JL.fr.bl⟩
     ·have e11:(k==0)=false:=by simpa using hk
      have HK:=jP hk;clear hk;refine aI (S:=(Cq w V T B f a b q o c)) (by kernel_rfl) JL (fun hHeld=>?_);refine tk 0 ?_;refine tk 1 ?_;refine tk 2 ?_;refine tk 3 ?_;refine tk 4 ?_;refine tk 5 ?_;refine tk 6 ?_;refine tk 7 ?_;refine tk 8 ?_;refine tk 9 ?_;refine rc 10 fun K hK=>?_;go_simp
      (refine (Y0 rfl JL).mono ?_;rintro e w8 ⟨rfl,Zm⟩)
      try go_wp2_with fail
      refine rk hK Zm fun hHeld=>?_;clear hK K;refine rc 11 fun K hK=>?_;go_simp
      (refine (GM rfl Zm).mono ?_;rintro e w9 ⟨rfl,Zl⟩)
      try go_wp2_with fail
      refine rk hK Zl fun hHeld=>?_;clear hK K;refine tk 12 ?_;refine tk 13 ?_;refine tk 14 ?_;refine aJ (by kernel_rfl) ?_ _;go_wp2_with fail
      go_ret
      exact⟨by rw[HR.1];simp[HEX.1,NU.1,DD.1,DC.1,Gf.1,HK.1],Zl.fr.bl⟩
    | some l=>
     obtain⟨hn,hi⟩:=HD.1 l hd;have HDN:=jP hn;have HIH:=jP hi;have DC:=jP hd;clear hd hn hi;refine rc 6 fun K hK=>?_;go_simp
     (refine (ajO DC.1 HDN.1 hy3).mono ?_;rintro e w5 ⟨b4,o4,c4,rfl,zD,hx5⟩)
     try go_wp2_with fail
     refine rk hK hx5 fun hHeld=>?_;clear hK K;refine tk 7 ?_;refine aJ (by kernel_rfl) ?_ _;go_wp2_with fail
     clear hy3;have hy4:=hx5.drew;have Hf:=zD.drew;clear zD hx5;have hns:=fun w:World=>run_neq_slice_nil_any (P:=Tryz.prog) w 22 3 (some ⟨b4,o4,none⟩) l.length c4 0 0 bC;obtain⟨rs,h5⟩:∃ r,Gm.mO T ⟨a,l⟩=r:=⟨_,rfl⟩;have Vr:=jP h5;clear h5;refine aI (S:=(Cq w V T B f a b q o c)) (by kernel_rfl) hy4 (fun hHeld=>?_);refine tk 0 ?_;refine tk 1 ?_;refine tk 2 ?_;refine tk 3 ?_;refine tk 4 ?_;refine tk 5 ?_;refine tk 6 ?_;refine tk 7 ?_;refine tk 8 ?_;refine tk 9 ?_;refine rc 10 fun K hK=>?_;go_simp
     (refine (ahP HIH.1 Vr.1 hy4 Hf).mono ?_;rintro e w6 ⟨rfl,hx6⟩)
     try go_wp2_with fail
     refine rk hK hx6 fun hHeld=>?_;clear hK K;refine tk 11 ?_;refine tk 12 ?_;refine aJ (by kernel_rfl) ?_ _;clear hns Hf;cases rs with
     | false=>
      go_wp2_with fail
      go_ret
      exact⟨by rw[HR.1];simp[HEX.1,NU.1,DD.1,DC.1,Vr.1],hx6.fr.bl⟩
     | true=>
      go_wp2_with fail
      have Qe:=hx6.drew;clear hy4 hx6;refine aI (S:=(Cq w V T B f a b q o c)) (by kernel_rfl) Qe (fun hHeld=>?_);refine tk 0 ?_;refine tk 1 ?_;refine tk 2 ?_;refine tk 3 ?_;refine tk 4 ?_;refine rc 5 fun K hK=>?_;go_simp
      (refine (GM Gf.1 Qe).mono ?_;rintro e w7 ⟨rfl,hx7⟩)
      try go_wp2_with fail
      refine rk hK hx7 fun hHeld=>?_;clear hK K;refine tk 6 ?_;refine aJ (by kernel_rfl) ?_ _;go_wp2_with fail
      have JL:=hx7.drew;clear hx7 Qe;by_cases hk:k=0
      ·subst hk;refine aI (S:=(Cq w V T B f a b q o c)) (by kernel_rfl) JL (fun hHeld=>?_);refine tk 0 ?_;refine tk 1 ?_;refine tk 2 ?_;refine tu 3 ?_;refine tu 4 ?_;refine tu 5 ?_;refine tu 6 ?_;refine tu 7 ?_;refine tu 8 ?_;refine tu 9 ?_;refine tu 10 ?_;refine tu 11 ?_;refine tu 12 ?_;refine tk 13 ?_;refine tk 14 ?_;refine aJ (by kernel_rfl) ?_ _;go_wp2_with fail
       go_ret
       exact⟨by rw[HR.1];simp[HEX.1,NU.1,DD.1,DC.1,Vr.1,Gf.1],JL.fr.bl⟩
      ·have e11:(k==0)=false:=by simpa using hk
       have HK:=jP hk;clear hk;refine aI (S:=(Cq w V T B f a b q o c)) (by kernel_rfl) JL (fun hHeld=>?_);refine tk 0 ?_;refine tk 1 ?_;refine tk 2 ?_;refine tk 3 ?_;refine tk 4 ?_;refine tk 5 ?_;refine tk 6 ?_;refine tk 7 ?_;refine tk 8 ?_;refine tk 9 ?_;refine rc 10 fun K hK=>?_;go_simp
       (refine (Y0 rfl JL).mono ?_;rintro e w8 ⟨rfl,Zm⟩)
       try go_wp2_with fail
       refine rk hK Zm fun hHeld=>?_;clear hK K;refine rc 11 fun K hK=>?_;go_simp
       (refine (GM rfl Zm).mono ?_;rintro e w9 ⟨rfl,Zl⟩)
       try go_wp2_with fail
       refine rk hK Zl fun hHeld=>?_;clear hK K;refine tk 12 ?_;refine tk 13 ?_;refine tk 14 ?_;refine aJ (by kernel_rfl) ?_ _;go_wp2_with fail
       go_ret
       exact⟨by rw[HR.1];simp[HEX.1,NU.1,DD.1,DC.1,Vr.1,Gf.1,HK.1],Zl.fr.bl⟩
theorem ac0:∀ (n:Nat) (m:Gm.Mp),Gm.qN m->Gm.rk m.f<n->KG B V T m:=by
 intro n;induction n with
 | zero=>intro m _ h;omega
 | succ n ih=>
  intro m hD hrk A k c w h hB hr;obtain⟨f,t⟩:=m;simp only at hr hrk ⊢;have hl:=lY hr;have hlen:=hD.ne;match t,hD,hr,hl,hlen with
  | [],hD,hr,hl,hlen=>exact absurd rfl hlen.1
  | [a],hD,hr,hl,hlen=>
   simp at hl;subst hl;exact QO A 1 c [a] w (by omega) (by omega)
  | [a,b],hD,hr,hl,hlen=>
   simp at hl;subst hl;obtain⟨q,o,e,_,_⟩:=hr.2 (by simp[ints]);subst e;have hT:=h.good;rw[Gm.af8 hT hD];have hb:Gm.dec T b=none:=by
    obtain⟨_,_,_,_,ht⟩:=hD;rcases ht with e | ⟨k,e,hk⟩
    ·simp at e
    ·injection e with _ e;injection e with e _
     subst e;have:∀ k∈([769,776,803,837,945]:List Int),k<7680:=by decide
     exact hT.Fv (.inl (this b hk))
   exact Ec hb (fun l hd=>by
    have hrl:=hD.rk a (by simp);simp only at hrl;exact⟨(hT.sV hd).ne.1,ih ⟨a,l⟩ (hT.sV hd) (by simp only;omega)⟩) rfl h hB hr
  | a::b::d::r,hD,hr,hl,hlen=>simp at hlen
theorem QS {m:Gm.Mp}(hD:Gm.qN m):KG B V T m:=ac0 6 m hD (by have:=Gm.wL m.f;omega)
end
end Go.Proofs.YtkachcflifhgiaaGreatDoor
