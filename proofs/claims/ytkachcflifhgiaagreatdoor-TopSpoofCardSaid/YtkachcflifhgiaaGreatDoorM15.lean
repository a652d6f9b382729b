/-     -/
import Derived.Test.YtkachcflifhgiaaGreatDoorM14
import Derived.BigGuardPart
import Derived.StillTailTactics
set_option linter.unusedVariables false
set_option maxRecDepth 100000
set_option maxHeartbeats 16000000
namespace Go.Proofs.YtkachcflifhgiaaGreatDoor
open Go Go.RowKit Go.Shelf Go.Proofs
def Ed (V:TV):Array Value:=#[.slice V.cat.A V.cat.n V.cat.c,.int .i64 0,.int .i64 8,.slice V.cls.A V.cls.n V.cls.c,.int .i64 1,.int .i64 254,.slice V.ku.A V.ku.n V.ku.c,.int .i64 0,.int .i64 5,.slice V.jX.A V.jX.n V.jX.c,.int .i64 0,.int .i64 11,.slice V.scr.A V.scr.n V.scr.c,.int .i64 0,.int .i64 60,.slice V.jU.A V.jU.n V.jU.c,.int .i64 0,.int .i64 4,.slice V.jW.A V.jW.n V.jW.c,.int .i64 1,.int .i64 1]
def PW (V:TV):Array Value:=#[.slice V.ext.A V.ext.n V.ext.c,.slice V.maps.A V.maps.n V.maps.c,.slice V.dec.A V.dec.n V.dec.c,.slice V.jY.A V.jY.n V.jY.c]
theorem QT {x:World}{B:Nat}{V:TV}{T:Gm.Tab}(h:j_ x B V T)(k:Nat)(hk:k<7):∃ (s:Sl) (lo hi:Int) (l:List Rg.Sn),(Ed V)[k*3]?=some (.slice s.A s.n s.c)/\(Ed V)[k*3+1]?=some (.int .i64 lo)/\(Ed V)[k*3+2]?=some (.int .i64 hi)/\Rd x B 3 s.A s.n (spans l)/\Gm.zQ lo hi l:=by
 match k,hk with
 | 0,_=>exact⟨V.cat,_,_,T.cat,rfl,rfl,rfl,h.cat,h.good.cat⟩
 | 1,_=>exact⟨V.cls,_,_,T.cls,rfl,rfl,rfl,h.cls,h.good.cls⟩
 | 2,_=>exact⟨V.ku,_,_,T.ku,rfl,rfl,rfl,h.ku,h.good.ku⟩
 | 3,_=>exact⟨V.jX,_,_,T.jX,rfl,rfl,rfl,h.jX,h.good.jX⟩
 | 4,_=>exact⟨V.scr,_,_,T.scr,rfl,rfl,rfl,h.scr,h.good.scr⟩
 | 5,_=>exact⟨V.jU,_,_,T.jU,rfl,rfl,rfl,h.jU,h.good.jU⟩
 | 6,_=>exact⟨V.jW,_,_,T.jW,rfl,rfl,rfl,h.jW,h.good.jW⟩
structure Rj (k:Nat)(l:List Gm.Mp):Prop where
 mQ:yx l
 len:l.length<=256
 key:∀ m∈l,0<=m.f/\m.f<=1114111/\(Gm.qR m.f=false\/(k=3/\(97<=m.f/\m.f<=122\/48<=m.f/\m.f<=57)))
 tgt:∀ m∈l,1<=m.to.length/\m.to.length<=18/\(k=0->m.to=[7,8])/\∀ c∈m.to,Gm.kS c≠0
theorem Gm.Us:∀ m∈Gm.uS,0<=m.f/\m.f<=1114111/\(Gm.qR m.f=false\/(97<=m.f/\m.f<=122\/48<=m.f/\m.f<=57))/\1<=m.to.length/\m.to.length<=18/\∀ c∈m.to,Gm.kS c≠0:=by decide +kernel
theorem Gm.Good.okE {T:Gm.Tab}(h:Gm.Good T):Rj 0 T.ext:=by
 refine⟨Gm.U3 h,?_,?_,?_⟩
 ·rcases h.ext with e | e<;>rw[e]<;>simp
 ·rcases h.ext with e | e<;>rw[e]
  ·nofun
  ·intro m hm;simp at hm;subst hm;decide +kernel
 ·rcases h.ext with e | e<;>rw[e]
  ·nofun
  ·intro m hm;simp at hm;subst hm;decide +kernel
theorem Gm.Jc {c:Int}(h0:0<=c)(h1:c<=7684):Gm.kS c≠0:=by
 unfold Gm.kS;rw[ah (by omega)];split
 ·omega
 ·split
  ·omega
  ·split<;>omega
theorem Gm.Good.okM {T:Gm.Tab}(h:Gm.Good T):Rj 1 T.maps:=by
 refine⟨h.mapA,by have:=h.PV;omega,fun m hm=>?_,fun m hm=>?_⟩
 ·have:=Gm.xX (h.maps m hm).1;exact⟨by omega,by omega,.inl this.1⟩
 ·obtain⟨_,_,j,h0,h1,ht⟩:=h.maps m hm;have hu:∀ c∈m.to,Gm.kS c≠0:=fun c hc=>by
   rcases ht with e | e<;>rw[e] at hc<;>simp at hc
   ·exact Gm.Jc (by omega) (by omega)
   ·rcases hc with rfl | rfl<;>exact Gm.Jc (by omega) (by omega)
  rcases ht with e | e<;>exact⟨by rw[e];simp,by rw[e];simp,nofun,hu⟩
theorem Gm.OX {c:Int}(h0:7680<=c)(h1:c<=7684):Gm.qR c=false:=by
 have:∀ i:Fin 5,Gm.qR (7680+(i.val:Int))=false:=by decide +kernel
 have h2:=this ⟨(c-7680).toNat,by omega⟩;have e:7680+(((c-7680).toNat:Nat):Int)=c:=by omega
 rw[e] at h2;exact h2
theorem Gm.Good.okD {T:Gm.Tab}(h:Gm.Good T):Rj 2 T.dec:=by
 refine⟨h.Xr,by have:=h.Fz;omega,fun m hm=>?_,fun m hm=>?_⟩
 ·have:=h.dec m hm;exact⟨by have:=this.1;omega,by have:=this.2.1;omega,.inl (Gm.OX this.1 this.2.1)⟩
 ·have:=h.dec m hm;have h1:=this.ne;refine⟨dK.2 h1.1,by omega,nofun,fun c hc=>(this.mF c hc).2.2.2.1⟩
theorem Gm.Good.okP {T:Gm.Tab}(h:Gm.Good T):Rj 3 T.jY:=by
 refine⟨h.abr,by have:=h.Pj;omega,fun m hm=>?_,fun m hm=>?_⟩
 ·obtain⟨h1,h2,h3,_⟩:=Gm.Us m (h.jY m hm).1;exact⟨h1,h2,h3.imp id fun h=>⟨rfl,h⟩⟩
 ·obtain⟨_,_,_,h4,h5,h6⟩:=Gm.Us m (h.jY m hm).1;exact⟨h4,h5,nofun,h6⟩
theorem PU {x:World}{B:Nat}{V:TV}{T:Gm.Tab}(h:j_ x B V T)(k:Nat)(hk:k<4):∃ (s:Sl) (l:List Gm.Mp),(PW V)[k]?=some (.slice s.A s.n s.c)/\qZ x B s.A s.n l/\Rj k l:=by
 match k,hk with
 | 0,_=>exact⟨V.ext,T.ext,rfl,h.ext,h.good.okE⟩
 | 1,_=>exact⟨V.maps,T.maps,rfl,h.maps,h.good.okM⟩
 | 2,_=>exact⟨V.dec,T.dec,rfl,h.dec,h.good.okD⟩
 | 3,_=>exact⟨V.jY,T.jY,rfl,h.jY,h.good.okP⟩
section
variable {w:World} {B:Nat} {V:TV} {T:Gm.Tab}
theorem CZ (V:TV)(w:World):Calls Tryz.prog 181 #[kF V] w fun e w'=>∃ g,e=.returned (.slice (some ⟨g,0,none⟩) 7 7)/\Bk w' g 233 (Ed V)/\w.heap.size<=g/\Below w.heap.size w w':=by
 go_enter Tryz.func181,Tryz.ntmps181
 go_wp2
 go_ret
 exact⟨w.heap.size+1,by simp,l_ _ _ _ _,by omega,mP _ _ _⟩
theorem AB (V:TV)(w:World):Calls Tryz.prog 182 #[kF V] w fun e w'=>∃ g,e=.returned (.slice (some ⟨g,0,none⟩) 4 4)/\Bk w' g 24 (PW V)/\w.heap.size<=g/\Below w.heap.size w w':=by
 go_enter Tryz.func182,Tryz.ntmps182
 go_wp2
 go_ret
 exact⟨w.heap.size+1,by simp,l_ _ _ _ _,by omega,mP _ _ _⟩
theorem abg (h:j_ w B V T)(hB:B<=w.heap.size):Calls Tryz.prog 127 #[kF V] w fun e w'=>e=.returned (.bool true)/\Below w.heap.size w w':=by
 have F0:=jP (Fr.start h hB);clear h hB;have hx5:(V.exc.n:Int)<=256:=by have:=F0.1.tb.good.Lt;rw[lY F0.1.tb.exc] at this;omega
 obtain⟨x0,x1,x2,x3,x4,x5,x6,x7,x8,x9,x10,x11⟩:=F0.1.cells;go_enter Tryz.func127,Tryz.ntmps127
 go_wp2_with fail
 clear x0 x1 x2 x3 x4 x5 x6 x7 x8 x9 x10 x11;refine (CZ V _).mono ?_;rintro e w1 ⟨g,rfl,hg,hgl,hb1⟩;have F1:=jP (F0.1.step hb1);have HG:=jP hg;clear hb1 hg F0;go_wp2_with fail
 go_loopw [3,15] (fun ok i wr=>∃ k:Nat,k<=7/\i=.int .i64 k/\ok=.bool true/\Below w1.heap.size w1 wr) (fun _ i _=>7-(intOf i).toNat)
 case atStart=>exact⟨0,by omega,rfl,rfl,ai _ _⟩
 case round=>
  obtain⟨k,hk,rfl,rfl,hbr⟩:=hrel;have HR:=jP hbr;clear hbr;by_cases hlt:k<7
  ·obtain⟨s,lo,hi,l,c0,c1,c2,hr,hc⟩:=QT (F1.1.step HR.1).tb k hlt;have hn:(s.n:Int)<=256:=by have:=hc.len;rw[qO hr] at this;omega
   have h0:=((HG.1.below HR.1 HG.1.lt).cell _).trans c0;have h1:=((HG.1.below HR.1 HG.1.lt).cell _).trans c1;have h2:=((HG.1.below HR.1 HG.1.lt).cell _).trans c2;clear c0 c1 c2 hr hc;go_wp2
   go_roundw
   case rel=>exact⟨k+1,by omega,by go_num,rfl,HR.1.alloc (by have:=HR.1.size;omega) _⟩
   case measure=>simp[intOf];omega
  ·obtain rfl:k=7:=by omega
   have F2:=jP (F1.1.step HR.1);clear HG HR F1;obtain⟨x0,x1,x2,x3,x4,x5,x6,x7,x8,x9,x10,x11⟩:=F2.1.cells;go_wp2_with fail
   clear x0 x1 x2 x3 x4 x5 x6 x7 x8 x9 x10 x11;refine (AB V _).mono ?_;rintro e w2 ⟨g2,rfl,hg,hgl,hb1⟩;have F3:=jP (F2.1.step hb1);have HG:=jP hg;clear hb1 hg F2;go_wp2_with fail
   go_loopw [3,30] (fun ok i wr=>∃ k:Nat,k<=4/\i=.int .i64 k/\ok=.bool true/\Below w2.heap.size w2 wr) (fun _ i _=>4-(intOf i).toNat)
   case atStart=>exact⟨0,by omega,rfl,rfl,ai _ _⟩
   case round=>
    obtain⟨k,hk,rfl,rfl,hbr⟩:=hrel;have HR:=jP hbr;clear hbr;by_cases hlt:k<4
    ·obtain⟨s,l,c0,hr,hc⟩:=PU (F3.1.step HR.1).tb k hlt;have hn:(s.n:Int)<=256:=by have:=hc.len;rw[hr.1] at this;omega
     have h0:=((HG.1.below HR.1 HG.1.lt).cell _).trans c0;clear c0 hr hc;go_wp2
     go_roundw
     case rel=>exact⟨k+1,by omega,by go_num,rfl,HR.1⟩
     case measure=>simp[intOf];omega
    ·obtain rfl:k=4:=by omega
     have HB1:=jP (F3.1.step HR.1).bl;go_wp2
     go_ret
     exact⟨rfl,HB1.1⟩
theorem VJ (h:j_ w B V T)(hB:B<=w.heap.size):Calls Tryz.prog 129 #[kF V] w fun e w'=>e=.returned (.bool true)/\Below w.heap.size w w':=by
 have F0:=jP (Fr.start h hB);clear h hB;obtain⟨x0,x1,x2,x3,x4,x5,x6,x7,x8,x9,x10,x11⟩:=F0.1.cells;go_enter Tryz.func129,Tryz.ntmps129
 go_wp2_with fail
 clear x0 x1 x2 x3 x4 x5 x6 x7 x8 x9 x10 x11;refine (CZ V _).mono ?_;rintro e w1 ⟨g,rfl,hg,hgl,hb1⟩;have F1:=jP (F0.1.step hb1);have HG:=jP hg;clear hb1 hg F0;go_wp2_with fail
 go_loopw [10] (fun i wr=>∃ k:Nat,k<=7/\i=.int .i64 k/\Below w1.heap.size w1 wr) (fun i _=>7-(intOf i).toNat)
 case atStart=>exact⟨0,by omega,rfl,ai _ _⟩
 case round=>
  obtain⟨k,hk,rfl,hbr⟩:=hrel;have HR:=jP hbr;clear hbr;by_cases hlt:k<7
  ·obtain⟨s,lo,hi,l,c0,c1,c2,hr,hc⟩:=QT (F1.1.step HR.1).tb k hlt;have hn:(s.n:Int)<=256:=by have:=hc.len;rw[qO hr] at this;omega
   have h0:=((HG.1.below HR.1 HG.1.lt).cell _).trans c0;have h1:=((HG.1.below HR.1 HG.1.lt).cell _).trans c1;have h2:=((HG.1.below HR.1 HG.1.lt).cell _).trans c2;have ny:=jP hr;have HC:=jP hc;obtain⟨A,n,cp⟩:=s;simp only at h0 ny hn;clear c0 c1 c2 hr hc;have F2:=jP ((F1.1.step HR.1).alloc (.cells #[.slice A n cp,.int .i64 lo,.int .i64 hi] 233));have hbx:=Bk.new wr 233 #[.slice A n cp,.int .i64 lo,.int .i64 hi];have HX:=jP hbx;have Ik:=jP (HR.1.alloc (by have:=HR.1.size;omega) (.cells #[.slice A n cp,.int .i64 lo,.int .i64 hi] 233));have I5:=jP (ny.1.alloc (F1.1.step HR.1).hx (.cells #[.slice A n cp,.int .i64 lo,.int .i64 hi] 233));have hz:=hbx.lt;clear HR ny hbx;go_wp2_with fail
   generalize hwo:wr.alloc (.cells #[.slice A n cp,.int .i64 lo,.int .i64 hi] 233)=wo at *;have hwz:wr.heap.size+1<=wo.heap.size:=by rw[<-hwo];simp
   have hw1:w1.heap.size<=wo.heap.size:=Ik.1.size;clear hwo h0 h1 h2;generalize wr.heap.size=z at *;go_loopw [17] (fun i wi=>∃ j:Nat,j<=n/\i=.int .i64 j/\Below wo.heap.size wo wi) (fun i _=>n-(intOf i).toNat)
   case atStart=>exact⟨0,by omega,rfl,ai _ _⟩
   case round=>
    obtain⟨j,hj,rfl,hbi⟩:=hrel;have HI:=jP hbi;clear hbi;by_cases hjn:j<n
    ·obtain⟨b,off,s,rfl,hbB,hs,g0,g1,g2⟩:=rX (I5.1.below (HI.1.mono F2.1.hx)) hjn;obtain⟨v0,v1,v2⟩:=HC.1.va s (ay hs);have y1:wr.cell? ⟨z,1,none⟩=some (.int .i64 lo):=(HX.1.below HI.1 hz).cell 1;have y2:wr.cell? ⟨z,2,none⟩=some (.int .i64 hi):=(HX.1.below HI.1 hz).cell 2;have hzr:z<wr.heap.size:=by have:=HI.1.size;omega
     clear hs;go_wp2_with fail
     go_roundw
     case rel=>exact⟨j+1,by omega,by go_num,HI.1.alloc HI.1.size _⟩
     case measure=>simp[intOf];omega
    ·obtain rfl:j=n:=by omega
     have HE:=jP (Ik.1.trans (HI.1.mono (by omega)));go_wp2_with fail
     go_roundw
     case rel=>exact⟨k+1,by omega,by go_num,HE.1⟩
     case measure=>simp[intOf];omega
  ·obtain rfl:k=7:=by omega
   have HE:=jP (F1.1.step HR.1).bl;go_wp2_with fail
   go_ret
   exact⟨rfl,HE.1⟩
end
theorem Wj (A:Option Addr)(n c:Nat)(l:List Rg.Sn)(lo hi:Int)(B:Nat)(w:World)(hr:Rd w B 3 A n (spans l))(hBw:B<=w.heap.size)(hc:Gm.zQ lo hi l) :
  Calls Tryz.prog 183 #[.slice A n c,.int .i64 0,.int .i64 1114111] w fun e w'=>e=.returned (.bool true)/\Below w.heap.size w w':=by
 obtain rfl:=qO hr;have h:=Wl A c l 0 1114111 B w hr hBw (by have:=hc.len;omega);rwa [show Rg.check l 0 1114111=true by unfold Rg.check;rw[Rg.Xu l (-1) (by omega) hc.mQ];simp;have:=hc.len;omega] at h
theorem agd {c:Int}(h:Gm.qR c=false):∀ s∈LQ,¬(s.f<=c/\c<=s.t):=by
 simp[Gm.qR,Gm.Ip,Gm.yg,Hg.mF] at h;simp[LQ];omega
def Gm.pt (last c:Int):Bool:=decide (last<c)&&decide (c<=1114111)&&!Gm.qR c
section
variable {w:World} {B:Nat} {V:TV} {T:Gm.Tab}
theorem Tn (f v:Int)(hf:Gm.qR f=false)(w:World)(h:xg w B)(hB:B<=w.heap.size) :
  Calls Tryz.prog 184 #[.agg #[.int .i64 f,.int .i64 f,.int .i64 v]] w fun e w'=>e=.returned (.bool true)/\Below w.heap.size w w':=by
 obtain⟨hg,A,c,h0,hr⟩:=h;have hg2:0<w.heap.size:=by omega
 have HR:=jP (hr.alloc hB (.cells #[.int .i64 f,.int .i64 f,.int .i64 v] 82));have HO:=jP (agd hf);have HB0:=jP ((ai w.heap.size w).alloc (ag _) (.cells #[.int .i64 f,.int .i64 f,.int .i64 v] 82));have HX:=jP (Bk.new w 82 #[.int .i64 f,.int .i64 f,.int .i64 v]);clear hr hf;go_enter Tryz.func184,Tryz.ntmps184
 go_wp2_with fail
 clear h0;generalize hw1:w.alloc (.cells #[.int .i64 f,.int .i64 f,.int .i64 v] 82)=w1 at *;have hz1:w.heap.size<w1.heap.size:=by rw[<-hw1];simp
 clear hw1;go_loopw [7] (fun i wr=>∃ k:Nat,k<=6/\i=.int .i64 k/\Below w1.heap.size w1 wr) (fun i _=>6-(intOf i).toNat)
 case atStart=>exact⟨0,by omega,rfl,ai _ _⟩
 case round=>
  obtain⟨k,hk,rfl,hbr⟩:=hrel;have HI:=jP hbr;clear hbr;by_cases hlt:k<6
  ·obtain⟨b,off,s,rfl,hbB,hs,g0,g1,g2⟩:=rX (HR.1.below (HI.1.mono (by omega))) hlt;have hno:=HO.1 s (ay hs);have y0:wr.cell? ⟨w.heap.size,0,none⟩=some (.int .i64 f):=(HX.1.below HI.1 hz1).cell 0;have y1:wr.cell? ⟨w.heap.size,1,none⟩=some (.int .i64 f):=(HX.1.below HI.1 hz1).cell 1;have hzr:w.heap.size<wr.heap.size:=by have:=HI.1.size;omega
   clear hs;by_cases h1:f<=s.t
   ·have h2:f<s.f:=by omega
    clear hno;go_wp2_with fail
    go_roundw
    case rel=>exact⟨k+1,by omega,by go_num,HI.1.alloc HI.1.size _⟩
    case measure=>simp[intOf];omega
   ·have h2:s.t<f:=by omega
    have h3:decide (f<=s.t)=false:=by simpa using h1
    clear hno h1;go_wp2_with fail
    go_roundw
    case rel=>exact⟨k+1,by omega,by go_num,HI.1.alloc HI.1.size _⟩
    case measure=>simp[intOf];omega
  ·obtain rfl:k=6:=by omega
   have HE:=jP (HB0.1.trans (HI.1.mono (by omega)));go_wp2_with fail
   go_ret
   exact⟨rfl,HE.1⟩
theorem ES (last c:Int)(w:World):Calls Tryz.prog 185 #[.int .i64 last,.int .i64 c] w fun e w'=>e=.returned (.bool (Gm.pt last c))/\w'=w:=by
 have HR:=jP (OY c);have HP:=jP (show Gm.pt last c=(decide (last<c)&&decide (c<=1114111)&&!Gm.qR c) from rfl);generalize Gm.pt last c=p at *;generalize Gm.qR c=r at *;go_enter Tryz.func185,Tryz.ntmps185
 go_wp2_with (go_at_call 240;refine (HR.1 _).mono ?_;rintro e w1 ⟨rfl,rfl⟩)
 all_goals
  go_ret
  refine⟨xu ?_,rfl⟩;rw[HP.1];first
   | (simp_all;done)
   | (rw[gu];simp_all<;>omega)
theorem abB (c:Int)(w:World)(h:97<=c/\c<=122\/48<=c/\c<=57):Calls Tryz.prog 186 #[.int .i64 c] w fun e w'=>e=.returned (.bool true)/\w'=w:=by
 rcases h with ⟨h1,h2⟩ | ⟨h1,h2⟩
 ·go_enter Tryz.func186,Tryz.ntmps186
  go_wp2
  go_ret
  exact⟨rfl,rfl⟩
 ·have h3:c<97:=by omega
  go_enter Tryz.func186,Tryz.ntmps186
  go_wp2
  go_ret
  exact⟨rfl,rfl⟩
theorem ada {l:List Gm.Mp}(h:yx l){j:Nat}{m:Gm.Mp}(hj:l[j]?=some m):∀ i m',j+1<=i->l[i]?=some m'->m.f<m'.f:=by
 intro i m' hi hm;obtain⟨h1,e1⟩:=ak.1 hj;obtain⟨h2,e2⟩:=ak.1 hm;have:=eX.1 h j i h1 h2 (by omega);rwa [e1,e2] at this
theorem Zk {l:List Int}(h:l.Pairwise (·<·)){j:Nat}{m:Int}(hj:l[j]?=some m):∀ i m',j+1<=i->l[i]?=some m'->m<m':=by
 intro i m' hi hm;obtain⟨h1,e1⟩:=ak.1 hj;obtain⟨h2,e2⟩:=ak.1 hm;have:=eX.1 h j i h1 h2 (by omega);rwa [e1,e2] at this
theorem Yk (h:j_ w B V T)(hB:B<=w.heap.size):Calls Tryz.prog 128 #[kF V] w fun e w'=>e=.returned (.bool true)/\Below w.heap.size w w':=by
 have F0:=jP (Fr.start h hB);clear h hB;obtain⟨x0,x1,x2,x3,x4,x5,x6,x7,x8,x9,x10,x11⟩:=F0.1.cells;go_enter Tryz.func128,Tryz.ntmps128
 go_wp2_with fail
 clear x0 x1 x2 x3 x4 x5 x6 x7 x8 x9 x10 x11;refine (CZ _ _).mono ?_;rintro e w1 ⟨g,rfl,hg,hgl,hb1⟩;have F1:=jP (F0.1.step hb1);have HG:=jP hg;clear hb1 hg F0;go_wp2_with fail
 go_loopw [18] (fun i wr=>∃ k:Nat,k<=7/\i=.int .i64 k/\Below w1.heap.size w1 wr) (fun i _=>7-(intOf i).toNat)
 case atStart=>exact⟨0,by omega,rfl,ai _ _⟩
 case round=>
  obtain⟨k,hk,rfl,hbr⟩:=hrel;have HR:=jP hbr;clear hbr;by_cases hlt:k<7
  ·obtain⟨s,lo,hi,l,c0,c1,c2,hr,hc⟩:=QT (F1.1.step HR.1).tb k hlt;have hn:(s.n:Int)<=256:=by have:=hc.len;rw[qO hr] at this;omega
   have h0:=((HG.1.below HR.1 HG.1.lt).cell _).trans c0;have h1:=((HG.1.below HR.1 HG.1.lt).cell _).trans c1;have h2:=((HG.1.below HR.1 HG.1.lt).cell _).trans c2;have ny:=jP hr;have HC:=jP hc;obtain⟨A,n,cp⟩:=s;simp only at h0 ny hn;clear c0 c1 c2 hr hc;have F2:=jP ((F1.1.step HR.1).alloc (.cells #[.slice A n cp,.int .i64 lo,.int .i64 hi] 233));have hbx:=Bk.new wr 233 #[.slice A n cp,.int .i64 lo,.int .i64 hi];have HX:=jP hbx;have Ik:=jP (HR.1.alloc (by have:=HR.1.size;omega) (.cells #[.slice A n cp,.int .i64 lo,.int .i64 hi] 233));have I5:=jP (ny.1.alloc (F1.1.step HR.1).hx (.cells #[.slice A n cp,.int .i64 lo,.int .i64 hi] 233));clear HR ny hbx;go_wp2_with fail
   generalize hwo:wr.alloc (.cells #[.slice A n cp,.int .i64 lo,.int .i64 hi] 233)=wo at *;have hw1:w1.heap.size<=wo.heap.size:=Ik.1.size;have hwz:wr.heap.size<wo.heap.size:=HX.1.lt;clear hwo h0 h1 h2;generalize wr.heap.size=z at *;refine (Wj A n cp l lo hi B wo I5.1 F2.1.hx HC.1).mono ?_;rintro e w2 ⟨rfl,hb2⟩;have F3:=jP (F2.1.step hb2);have lM:=jP (HX.1.below hb2 hwz);have amf:=jP (I5.1.below (hb2.mono F2.1.hx));have ams:=jP (Ik.1.trans (hb2.mono hw1));have hz2:z<w2.heap.size:=by have:=hb2.size;omega
   have hw2:w1.heap.size<=w2.heap.size:=by have:=hb2.size;omega
   have y0:w2.cell? ⟨z,0,none⟩=some (.slice A n cp):=lM.1.cell 0;clear hb2 F2 HX I5 Ik;go_wp2_with fail
   clear y0;go_loopw [29] (fun i wi=>∃ j:Nat,j<=n/\i=.int .i64 j/\Below w2.heap.size w2 wi) (fun i _=>n-(intOf i).toNat)
   case atStart=>exact⟨0,by omega,rfl,ai _ _⟩
   case round=>
    obtain⟨j,hj,rfl,hbi⟩:=hrel;have HI:=jP hbi;clear hbi;by_cases hjn:j<n
    ·obtain⟨b,off,s,rfl,hbB,hs,g0,g1,g2⟩:=rX (amf.1.below (HI.1.mono F3.1.hx)) hjn;obtain⟨p0,p1⟩:=HC.1.pt s (ay hs);have HP:=jP (Gm.xX p1).1;rw[<-p0] at g1;have F4:=jP ((F3.1.step HI.1).alloc (.cells #[.int .i64 s.f,.int .i64 s.f,.int .i64 s.v] 82));clear hs p0 p1;go_wp2_with fail
     refine (Tn s.f s.v HP.1 _ F4.1.tb.blk F4.1.hx).mono ?_;rintro e w4 ⟨rfl,hb4⟩;have HI4:=jP ((HI.1.alloc HI.1.size (.cells #[.int .i64 s.f,.int .i64 s.f,.int .i64 s.v] 82)).trans (hb4.mono (by have:=HI.1.size;simp;omega)));clear hb4 g0 g1 g2;go_wp2_with fail
     go_roundw
     case rel=>exact⟨j+1,by omega,by go_num,HI4.1⟩
     case measure=>simp[intOf];omega
    ·obtain rfl:j=n:=by omega
     have HE:=jP (ams.1.trans (HI.1.mono (by omega)));go_wp2_with fail
     go_roundw
     case rel=>exact⟨k+1,by omega,by go_num,HE.1⟩
     case measure=>simp[intOf];omega
  ·obtain rfl:k=7:=by omega
   have F2:=jP (F1.1.step HR.1);clear HR HG F1;obtain⟨x0,x1,x2,x3,x4,x5,x6,x7,x8,x9,x10,x11⟩:=F2.1.cells;go_wp2_with fail
   clear x0 x1 x2 x3 x4 x5 x6 x7 x8 x9 x10 x11;refine (AB _ _).mono ?_;rintro e w2 ⟨g2,rfl,hg,hgl,hb1⟩;have F3:=jP (F2.1.step hb1);have HG:=jP hg;clear hb1 hg F2;go_wp2_with fail
   go_loopw [41] (fun i wr=>∃ k:Nat,k<=4/\i=.int .i64 k/\Below w2.heap.size w2 wr) (fun i _=>4-(intOf i).toNat)
   case atStart=>exact⟨0,by omega,rfl,ai _ _⟩
   case round=>
    obtain⟨k,hk,rfl,hbr⟩:=hrel;have HR:=jP hbr;clear hbr;by_cases hlt:k<4
    ·obtain⟨s,l,c0,hr,hc⟩:=PU (F3.1.step HR.1).tb k hlt;have hn:(s.n:Int)<=256:=by have:=hc.len;rw[hr.1] at this;omega
     have h0:=((HG.1.below HR.1 HG.1.lt).cell _).trans c0;have F4:=jP (F3.1.step HR.1);have ny:=jP hr;have HC:=jP hc;have hw2:=HR.1.size;obtain⟨A,n,cp⟩:=s;simp only at h0 ny hn;clear c0 hr hc;have hd:decide ((k:Int)<4)=true:=by simp;omega
     obtain⟨wo,rfl⟩:∃ wo:World,wo=wr:=⟨_,rfl⟩;go_wp2_with fail
     clear h0 hd;go_loopw [9,48] (fun la i wi=>∃ (j:Nat) (last:Int),j<=n/\i=.int .i64 j/\la=.int .i64 last/\(∀ i' m,j<=i'->l[i']?=some m->last<m.f)/\Below wo.heap.size wo wi) (fun _ i _=>n-(intOf i).toNat)
     case atStart=>exact⟨0,-1,by omega,rfl,rfl,fun i' m _ hm=>by have:=(HC.1.key m (ay hm)).1;omega,ai _ _⟩
     case round=>
      obtain⟨j,last,hj,rfl,rfl,hla,hbi⟩:=hrel;have HI:=jP hbi;have FW:=jP hla;clear hbi hla;by_cases hjn:j<n
      ·obtain⟨b,off,m,A',c',rfl,hbB,hs,g0,g1,g2⟩:=rU (ny.1.below (HI.1.mono F4.1.hx)) hjn;have hlm:=FW.1 j m (ag _) hs;obtain⟨k0,k1,k2⟩:=HC.1.key m (ay hs);have HNX:=jP (ada HC.1.mQ hs);have uo:=jP (HI.1.alloc HI.1.size (.cells #[.int .i64 m.f,.slice A' m.to.length c'] 89));clear hs g2;cases hrs:Gm.qR m.f with
       | false=>
        have HPT:=jP (show ∀ w,Calls Tryz.prog 185 #[.int .i64 last,.int .i64 m.f] w fun e w'=>e=.returned (.bool true)/\w'=w from fun w=>by
         have:=ES last m.f w;rwa [show Gm.pt last m.f=true by simp[Gm.pt,hrs];omega] at this)
        clear hrs k2;go_wp2_with (go_at_call 185;refine (HPT.1 _).mono ?_;rintro e w' ⟨rfl,rfl⟩)
        go_roundw
        case rel=>exact⟨j+1,m.f,by omega,by go_num,rfl,HNX.1,uo.1⟩
        case measure=>simp[intOf];omega
       | true=>
        have HPT:=jP (show ∀ w,Calls Tryz.prog 185 #[.int .i64 last,.int .i64 m.f] w fun e w'=>e=.returned (.bool false)/\w'=w from fun w=>by
         have:=ES last m.f w;rwa [show Gm.pt last m.f=false by simp[Gm.pt,hrs]] at this)
        obtain⟨hk3,hnm⟩:k=3/\(97<=m.f/\m.f<=122\/48<=m.f/\m.f<=57):=by
         rcases k2 with h | h
         ·rw[hrs] at h;cases h
         ·exact h
        have HNM:=jP (fun w=>abB m.f w hnm);have hb3:((k:Int) != 3)=false:=by simp;omega
        clear hrs k2 hnm hk3;go_wp2_with (first | (go_at_call 185;refine (HPT.1 _).mono ?_;rintro e w' ⟨rfl,rfl⟩) | (go_at_call 186;refine (HNM.1 _).mono ?_;rintro e w' ⟨rfl,rfl⟩))
        go_roundw
        case rel=>exact⟨j+1,m.f,by omega,by go_num,rfl,HNX.1,uo.1⟩
        case measure=>simp[intOf];omega
      ·obtain rfl:j=n:=by omega
       have HE:=jP (HR.1.trans (HI.1.mono (by omega)));go_wp2_with fail
       go_roundw
       case rel=>exact⟨k+1,by omega,by go_num,HE.1⟩
       case measure=>simp[intOf];omega
    ·have hd:decide ((k:Int)<4)=false:=by simp;omega
     clear hlt;have F4:=jP (F3.1.step HR.1);clear HR HG F3;have x10:wr.cell? ⟨w.heap.size,10,none⟩=some (.slice V.exc.A V.exc.n V.exc.c):=F4.1.bx.cell 10;have hn:(V.exc.n:Int)<=256:=by have:=F4.1.tb.good.Lt;have:=lY (show Rd wr B 1 V.exc.A V.exc.n (ints T.exc) from F4.1.tb.exc);omega
     have ny:=jP (show Rd wr B 1 V.exc.A V.exc.n (ints T.exc) from F4.1.tb.exc);have HA:=jP F4.1.tb.good.Xj;have HRG:=jP (show ∀ c∈T.exc,7680<=c/\c<=7684 from fun c hc=>by
      obtain⟨m,hm,rfl⟩:=F4.1.tb.good.exc c hc;have:=F4.1.tb.good.dec m hm;exact⟨this.1,this.2.1⟩)
     generalize V.exc.A=eA at *;generalize V.exc.n=en at *;generalize V.exc.c=ec at *;obtain⟨wo,rfl⟩:∃ wo:World,wo=wr:=⟨_,rfl⟩;go_wp2_with fail
     clear x10;go_loopw [12,80] (fun la i wi=>∃ (j:Nat) (last:Int),j<=en/\i=.int .i64 j/\la=.int .i64 last/\(∀ i' m,j<=i'->T.exc[i']?=some m->last<m)/\Below wo.heap.size wo wi) (fun _ i _=>en-(intOf i).toNat)
     case atStart=>exact⟨0,-1,by omega,rfl,rfl,fun i' m _ hm=>by have:=(HRG.1 m (ay hm)).1;omega,ai _ _⟩
     case round=>
      obtain⟨j,last,hj,rfl,rfl,hla,hbi⟩:=hrel;have HI:=jP hbi;have FW:=jP hla;clear hbi hla;by_cases hjn:j<en
      ·obtain⟨b,off,c,rfl,hbB,hs,g0⟩:=jZ (ny.1.below (HI.1.mono F4.1.hx)) hjn;have hlm:=FW.1 j c (ag _) hs;obtain⟨k0,k1⟩:=HRG.1 c (ay hs);have HNX:=jP (Zk HA.1 hs);have HPT:=jP (show ∀ w,Calls Tryz.prog 185 #[.int .i64 last,.int .i64 c] w fun e w'=>e=.returned (.bool true)/\w'=w from fun w=>by
        have:=ES last c w;rwa [show Gm.pt last c=true by simp[Gm.pt,Gm.OX k0 k1];omega] at this)
       clear hs;go_wp2_with (go_at_call 185;refine (HPT.1 _).mono ?_;rintro e w' ⟨rfl,rfl⟩)
       go_roundw
       case rel=>exact⟨j+1,c,by omega,by go_num,rfl,HNX.1,HI.1⟩
       case measure=>simp[intOf];omega
      ·obtain rfl:j=en:=by omega
       have HE:=jP (F4.1.bl.trans (HI.1.mono (by have:=F4.1.sz;omega)));go_wp2_with fail
       go_ret
       exact⟨rfl,HE.1⟩
end
section
variable {w:World} {B:Nat} {V:TV} {T:Gm.Tab}
theorem SS (A:Option Addr)(c:Nat)(w:World)(h:Rd w B 1 A 2 (ints [7,8])):Calls Tryz.prog 187 #[.slice A 2 c] w fun e w'=>e=.returned (.bool true)/\w'=w:=by
 obtain⟨b,off,rfl,hb,hc⟩:=h.2 (by simp[ints]);have c0:w.cell? ⟨b,off,none⟩=some (.int .i64 7):=hc 0 _ rfl;have c1:w.cell? ⟨b,off+1,none⟩=some (.int .i64 8):=hc 1 _ rfl;clear hc h;go_enter Tryz.func187,Tryz.ntmps187
 go_wp2_with fail
 refine fG 3 ?_;rw[dN];go_wp2_with fail
 rw[dN];go_wp2_with fail
 rw[dN];go_wp2_with fail
 go_ret
 exact⟨rfl,rfl⟩
theorem SH (h:j_ w B V T)(hB:B<=w.heap.size):Calls Tryz.prog 130 #[kF V] w fun e w'=>e=.returned (.bool true)/\Below w.heap.size w w':=by
 have F0:=jP (Fr.start h hB);clear h hB;obtain⟨x0,x1,x2,x3,x4,x5,x6,x7,x8,x9,x10,x11⟩:=F0.1.cells;go_enter Tryz.func130,Tryz.ntmps130
 go_wp2_with fail
 clear x0 x1 x2 x3 x4 x5 x6 x7 x8 x9 x10 x11;refine (AB V _).mono ?_;rintro e w2 ⟨g2,rfl,hg,hgl,hb1⟩;have F3:=jP (F0.1.step hb1);have HG:=jP hg;clear hb1 hg F0;go_wp2_with fail
 go_loopw [12] (fun i wr=>∃ k:Nat,k<=4/\i=.int .i64 k/\Below w2.heap.size w2 wr) (fun i _=>4-(intOf i).toNat)
 case atStart=>exact⟨0,by omega,rfl,ai _ _⟩
 case round=>
  obtain⟨k,hk,rfl,hbr⟩:=hrel;have HR:=jP hbr;clear hbr;by_cases hlt:k<4
  ·obtain⟨s,l,c0,hr,hc⟩:=PU (F3.1.step HR.1).tb k hlt;have hn:(s.n:Int)<=256:=by have:=hc.len;rw[hr.1] at this;omega
   have h0:=((HG.1.below HR.1 HG.1.lt).cell _).trans c0;have F4:=jP (F3.1.step HR.1);have ny:=jP hr;have HC:=jP hc;have hw2:=HR.1.size;obtain⟨A,n,cp⟩:=s;simp only at h0 ny hn;clear c0 hr hc;have hd:decide ((k:Int)<4)=true:=by simp;omega
   obtain⟨wo,rfl⟩:∃ wo:World,wo=wr:=⟨_,rfl⟩;go_wp2_with fail
   clear h0 hd;go_loopw [19] (fun i wi=>∃ j:Nat,j<=n/\i=.int .i64 j/\Below wo.heap.size wo wi) (fun i _=>n-(intOf i).toNat)
   case atStart=>exact⟨0,by omega,rfl,ai _ _⟩
   case round=>
    obtain⟨j,hj,rfl,hbi⟩:=hrel;have HI:=jP hbi;clear hbi;by_cases hjn:j<n
    ·obtain⟨b,off,m,A',c',rfl,hbB,hs,g0,g1,g2⟩:=rU (ny.1.below (HI.1.mono F4.1.hx)) hjn;obtain⟨k0,k1,k2,k3⟩:=HC.1.tgt m (ay hs);have uo:=jP (HI.1.alloc HI.1.size (.cells #[.int .i64 m.f,.slice A' m.to.length c'] 89));have HT:=jP (g2.alloc (show B<=wr.heap.size by have:=HI.1.size;have:=F4.1.hx;omega) (.cells #[.int .i64 m.f,.slice A' m.to.length c'] 89));have HX:=jP (Bk.new wr 89 #[.int .i64 m.f,.slice A' m.to.length c']);have e0:(m.to.length:Int)<=18:=by omega
     have e1:(1:Int)<=(m.to.length:Int):=by omega
     have K2:=jP k2;have K3:=jP k3;clear hs g2 k2 k3;by_cases hk0:k=0
     ·have hto:=K2.1 hk0;have hb0:((k:Int)==0)=true:=by simp;omega
      rw[hto] at g1 uo HT HX e0 e1;have Dv:=jP (fun w h=>SS (B:=B) A' c' w h);have e2:([7,8]:List Int).length=2:=rfl;rw[e2] at g1 uo HT HX;clear hto hk0 e0 e1 e2;go_wp2_with fail
      refine (Dv.1 _ HT.1).mono ?_;rintro e w3 ⟨rfl,rfl⟩;go_wp2_with fail
      go_roundw
      case rel=>exact⟨j+1,by omega,by go_num,uo.1⟩
      case measure=>simp[intOf];omega
     ·have hb0:((k:Int)==0)=false:=by simp;omega
      clear hk0;have hlen:m.to.length<=18:=by omega
      generalize hq:m.to=q at *;clear hq;generalize hm:q.length=t at *;have HL:=jP hm;clear hm;go_wp2_with fail
      generalize hwo:wr.alloc (.cells #[.int .i64 m.f,.slice A' t c'] 89)=wp at *;have hwz:wr.heap.size<wp.heap.size:=HX.1.lt;have hwp:wo.heap.size<=wp.heap.size:=uo.1.size;have hBp:B<=wp.heap.size:=by have:=F4.1.hx;omega
      clear hwo g0 g1;go_loopw [42] (fun i wi=>∃ (p:Nat) (m:Nat),p<=t/\i=.int .i64 p/\wi=wp) (fun i _=>t-(intOf i).toNat)
      case atStart=>exact⟨0,0,by omega,rfl,rfl⟩
      case round=>
       obtain⟨p,_,hp,rfl,rfl⟩:=hrel;by_cases hpt:p<t
       ·obtain⟨b5,WB,c5,rfl,hb5,AX,Ff⟩:=jZ HT.1 hpt;have hu:=K3.1 c5 (ay AX);have hub:(Gm.kS c5==0)=false:=by simpa using hu
        have HU:=jP (Ai c5);generalize Gm.kS c5=u at *;clear AX hu;go_wp2_with fail
        refine (HU.1 _).mono ?_;rintro e w3 ⟨rfl,rfl⟩;go_wp2_with fail
        go_roundw
        case rel=>exact⟨p+1,0,by omega,by go_num,by trivial⟩
        case measure=>simp[intOf];omega
       ·obtain rfl:p=t:=by omega
        go_wp2_with fail
        go_roundw
        case rel=>exact⟨j+1,by omega,by go_num,uo.1⟩
        case measure=>simp[intOf];omega
    ·obtain rfl:j=n:=by omega
     have HE:=jP (HR.1.trans (HI.1.mono (by omega)));go_wp2_with fail
     go_roundw
     case rel=>exact⟨k+1,by omega,by go_num,HE.1⟩
     case measure=>simp[intOf];omega
  ·have HE:=jP (F3.1.step HR.1).bl;go_wp2_with fail
   go_ret
   exact⟨rfl,HE.1⟩
def Gm.c3 (l:List Rg.Sn)(j:Nat):Nat:=((l.take j).filter (fun s=>s.v==3)).length
theorem Gm.aga {l:List Rg.Sn}{j:Nat}{s:Rg.Sn}(h:l[j]?=some s):Gm.c3 l (j+1)=Gm.c3 l j+if s.v=3 then 1 else 0:=by
 obtain⟨q1,q2⟩:=ak.1 h;unfold Gm.c3;rw[az q1,q2,iD,aA];by_cases e:s.v=3<;>simp[e]
theorem Gm.ajR (l:List Rg.Sn)(j:Nat):Gm.c3 l j<=l.length:=by
 unfold Gm.c3;have:=List.length_filter_le (fun s:Rg.Sn=>s.v==3) (l.take j);have:=List.length_take_le j l;have:=bZ (i:=j) (l:=l);omega
theorem Gm.aeD {T:Gm.Tab}{c:Int}(h:97<=c/\c<=99\/c=46):Gm.jU T c=1:=by
 have h4:∀ c∈([97,98,99,46]:List Int),Gm.kS c≠0/\Gm.qR c=true/\(Gm.kZ c).jU=1:=by decide +kernel
 have h5:c∈([97,98,99,46]:List Int):=by simp;omega
 obtain⟨h6,h7,h8⟩:=h4 c h5;unfold Gm.jU Gm.pick;rw[ah h6,aj h7,h8]
theorem WM (h:j_ w B V T)(hB:B<=w.heap.size):Calls Tryz.prog 131 #[kF V] w fun e w'=>e=.returned (.bool true)/\Below w.heap.size w w':=by
 have F0:=jP (Fr.start h hB);clear h hB;have Vr:=jP F0.1.tb.jU;have HCS:=jP F0.1.tb.good.jU;have hl1:=qO F0.1.tb.jU;have hn:(V.jU.n:Int)<=256:=by have:=F0.1.tb.good.jU.len;omega
 have HMN:=jP F0.1.tb.good.alo;have HRM:=jP F0.1.tb.maps;have Ia:=jP hl1;have HLM:=jP F0.1.tb.maps.1;have Fa:V.maps.n<=3:=by have:=F0.1.tb.good.PV;have:=F0.1.tb.maps.1;omega
 clear hl1;obtain⟨x0,x1,x2,x3,x4,x5,x6,x7,x8,x9,x10,x11⟩:=F0.1.cells;go_enter Tryz.func131,Tryz.ntmps131
 go_wp2_with fail
 clear x0 x1 x2 x3 x4 x5 x6 x7 x8 x9 x10 x11;generalize hw1:w.alloc (.cells (kK V) 26)=w1 at *;clear hw1;generalize V.jU.A=sA at *;generalize V.jU.n=sn at *;generalize V.jU.c=sc at *;go_loopw [3,14] (fun vn i wr=>∃ k:Nat,k<=sn/\i=.int .i64 k/\vn=.int .i64 (Gm.c3 T.jU k:Nat)/\Below w1.heap.size w1 wr) (fun _ i _=>sn-(intOf i).toNat)
 case atStart=>exact⟨0,by omega,rfl,rfl,ai _ _⟩
 case round=>
  obtain⟨k,hk,rfl,rfl,hbr⟩:=hrel;have HR:=jP hbr;clear hbr;have hc3:Gm.c3 T.jU k<=256:=by have:=Gm.ajR T.jU k;have:=Ia.1;omega
  by_cases hlt:k<sn
  ·obtain⟨b,off,s,rfl,hbB,hs,g0,g1,g2⟩:=rX (Vr.1.below (HR.1.mono F0.1.hx)) hlt;obtain⟨p0,p1⟩:=HCS.1.pt s (ay hs);obtain⟨_,_,q0,q1⟩:=Gm.xX p1;have hsu:=Gm.aga hs;rw[<-p0] at g1;clear hs p0 p1;by_cases h3:s.v=3
   ·rw[aj h3] at hsu;have HS:=jP hsu;have hb3:(s.v==3)=true:=by simpa using h3
    clear hsu h3;generalize Gm.c3 T.jU k=n0 at *;go_wp2_with fail
    go_roundw
    case rel=>exact⟨k+1,by omega,by go_num,by rw[HS.1];go_num,HR.1.alloc HR.1.size _⟩
    case measure=>simp[intOf];omega
   ·rw[ah h3] at hsu;have HS:=jP hsu;have hb3:(s.v==3)=false:=by simpa using h3
    clear hsu h3;generalize Gm.c3 T.jU k=n0 at *;go_wp2_with fail
    go_roundw
    case rel=>exact⟨k+1,by omega,by go_num,by rw[HS.1];go_num,HR.1.alloc HR.1.size _⟩
    case measure=>simp[intOf];omega
  ·obtain rfl:k=sn:=by omega
   have hce:Gm.c3 T.jU k=V.maps.n:=by
    unfold Gm.c3;rw[aP (by have:=Ia.1;omega),HMN.1];exact HLM.1
   have F2:=jP (F0.1.step HR.1);rw[hce];have ame:=jP (HRM.1.below (HR.1.mono F0.1.hx));have x8:wr.cell? ⟨w.heap.size,8,none⟩=some (.slice V.maps.A V.maps.n V.maps.c):=F2.1.bx.cell 8;clear hce hc3 HR F0 HRM HLM HMN;have hbe:((V.maps.n:Int) != (V.maps.n:Int))=false:=by simp
   obtain⟨wo,rfl⟩:∃ wo:World,wo=wr:=⟨_,rfl⟩;generalize V.maps.A=mA at *;generalize V.maps.n=mn at *;generalize V.maps.c=mc at *;go_wp2_with fail
   clear x8;go_loopw [38] (fun i wr=>∃ k:Nat,k<=mn/\i=.int .i64 k/\Below wo.heap.size wo wr) (fun i _=>mn-(intOf i).toNat)
   case atStart=>exact⟨0,by omega,rfl,ai _ _⟩
   case round=>
    obtain⟨j,hj,rfl,hbr⟩:=hrel;have HI:=jP hbr;clear hbr;by_cases hjn:j<mn
    ·obtain⟨b,off,m,A',c',rfl,hbB,hs,g0,g1,g2⟩:=rU (ame.1.below (HI.1.mono F2.1.hx)) hjn;obtain⟨k0,k1,jj,k2,k3,k4⟩:=F2.1.tb.good.maps m (ay hs);have F3:=jP ((F2.1.step HI.1).alloc (.cells #[.int .i64 m.f,.slice A' m.to.length c'] 89));have HT:=jP (g2.alloc (show B<=wr.heap.size by have:=HI.1.size;have:=F2.1.hx;omega) (.cells #[.int .i64 m.f,.slice A' m.to.length c'] 89));have HX:=jP (Bk.new wr 89 #[.int .i64 m.f,.slice A' m.to.length c']);have uo:=jP (HI.1.alloc HI.1.size (.cells #[.int .i64 m.f,.slice A' m.to.length c'] 89));have Rw:=jP (show ∀ c∈m.to,Gm.jU T c=1 from fun c hc=>by
      apply Gm.aeD;rcases k4 with e | e<;>rw[e] at hc<;>simp at hc<;>omega)
     have hlen:m.to.length<=2:=by rcases k4 with e | e<;>rw[e]<;>simp
     have K1:=jP k1;clear hs g2 k0 k1 k2 k3 k4;obtain⟨x0,x1,x2,x3,x4,x5,x6,x7,x8,x9,x10,x11⟩:=F3.1.cells;have hzx:=(F2.1.step HI.1).sz;go_wp2_with fail
     clear x0 x1 x2 x3 x4 x5 x6 x7 x8 x9 x10 x11;generalize hwo:wr.alloc (.cells #[.int .i64 m.f,.slice A' m.to.length c'] 89)=wp at *;have hwz:wr.heap.size<wp.heap.size:=HX.1.lt;have hwp:wo.heap.size<=wp.heap.size:=uo.1.size;clear hwo g0 g1;generalize wr.heap.size=z at *;refine (Gt F3.1.tb F3.1.hx m.f).mono ?_;rintro e w4 ⟨rfl,hb4⟩;rw[K1.1];have F5:=jP (F3.1.step hb4);have ug:=jP (HX.1.below hb4 hwz);have FT:=jP (HT.1.below (hb4.mono F3.1.hx));have Su:=jP (uo.1.trans (hb4.mono hwp));have g1:w4.cell? ⟨z,1,none⟩=some (.slice A' m.to.length c'):=ug.1.cell 1;have BU:z<w4.heap.size:=ug.1.lt;clear hb4 F3 HX HT uo;generalize hq:m.to=q at *;clear hq;generalize hmm:q.length=t at *;clear hmm;go_wp2_with fail
     clear g1;go_loopw [50] (fun i wi=>∃ (p:Nat),p<=t/\i=.int .i64 p/\Below w4.heap.size w4 wi) (fun i _=>t-(intOf i).toNat)
     case atStart=>exact⟨0,by omega,rfl,ai _ _⟩
     case round=>
      obtain⟨p,hp,rfl,hbp⟩:=hrel;have HP:=jP hbp;have F6:=jP (F5.1.step hbp);clear hbp;by_cases hpt:p<t
      ·obtain⟨b5,WB,c5,rfl,hb5,AX,Ff⟩:=jZ (FT.1.below (HP.1.mono F5.1.hx)) hpt;have HU:=jP (Rw.1 c5 (ay AX));clear AX;obtain⟨x0,x1,x2,x3,x4,x5,x6,x7,x8,x9,x10,x11⟩:=F6.1.cells;go_wp2_with fail
       clear x0 x1 x2 x3 x4 x5 x6 x7 x8 x9 x10 x11 Ff;refine (Gt F6.1.tb F6.1.hx c5).mono ?_;rintro e w7 ⟨rfl,hb7⟩;rw[HU.1];have qf:=jP (HP.1.trans (hb7.mono HP.1.size));clear hb7;go_wp2_with fail
       go_roundw
       case rel=>exact⟨p+1,by omega,by go_num,qf.1⟩
       case measure=>simp[intOf];omega
      ·obtain rfl:p=t:=by omega
       have HE:=jP (Su.1.trans (HP.1.mono Su.1.size));go_wp2_with fail
       go_roundw
       case rel=>exact⟨j+1,by omega,by go_num,HE.1⟩
       case measure=>simp[intOf];omega
    ·obtain rfl:j=mn:=by omega
     have HE:=jP (F2.1.step HI.1).bl;go_wp2_with fail
     go_ret
     exact⟨rfl,HE.1⟩
end
def Gm.Qw (T:Gm.Tab)(c:Int):Nat:=T.dec.countP (fun m=>decide (c<m.f))
theorem Gm.Xt (l:List Gm.Mp)(c d:Int)(h:d<c):l.countP (fun m=>decide (c<m.f))+l.countP (fun m=>m.f==c)<=l.countP (fun m=>decide (d<m.f)):=by
 induction l with
 | nil=>simp
 | cons m r ih=>
  simp only[List.countP_cons];by_cases h1:c<m.f
  ·have h2:¬m.f=c:=by omega
   have h3:d<m.f:=by omega
   simp[h1,h2,h3];omega
  ·by_cases h2:m.f=c
   ·have h3:d<m.f:=by omega
    simp[h2,h];omega
   ·simp[h1,h2];omega
theorem Gm.Qv {T:Gm.Tab}{c:Int}{l:List Int}(hd:Gm.dec T c=some l){d:Int}(h:d<c):Gm.Qw T c+1<=Gm.Qw T d:=by
 obtain⟨m,hm,hf,_⟩:=Gm.Dn hd;have h1:0<T.dec.countP (fun m=>m.f==c):=List.countP_pos_iff.2 ⟨m,hm,by simpa using hf⟩;have:=Gm.Xt T.dec c d h;unfold Gm.Qw;omega
theorem Gm.ahK {T:Gm.Tab}{c:Int}{l:List Int}(hd:Gm.dec T c=some l):Gm.Qw T c+1<=T.dec.length:=by
 have:=Gm.Qv hd (d:=c-1) (by omega);have:Gm.Qw T (c-1)<=T.dec.length:=fM;omega
theorem Gm.qN.lt {m:Gm.Mp}(h:Gm.qN m):∀ d∈m.to,d<m.f:=by
 obtain⟨h1,h2,b,hb,ht⟩:=h;intro d hd;rcases ht with e | ⟨k,e,hk⟩
 ·rw[e] at hd;simp at hd;subst hd;omega
 ·rw[e] at hd;simp at hd;rcases hd with rfl | rfl
  ·omega
  ·have:∀ k∈([769,776,803,837,945]:List Int),k<=945:=by decide
   have:=this d hk;omega
def Gm.Jf (l:List Int)(j:Nat):Nat:=((l.take j).map (fun d=>Gm.rk d+1)).sum
theorem Gm.aa2 {l:List Int}{j:Nat}{d:Int}(h:l[j]?=some d):Gm.Jf l (j+1)=Gm.Jf l j+(Gm.rk d+1):=by
 obtain⟨q1,q2⟩:=ak.1 h;unfold Gm.Jf;rw[az q1,q2];simp
theorem Gm.qN.Jf {m:Gm.Mp}(h:Gm.qN m):∀ j,Gm.Jf m.to j<=Gm.rk m.f+1:=by
 have hr:=h.rk;obtain⟨h1,h2,b,hb,ht⟩:=h;intro j;have hs:((m.to.take j).map (fun d=>Gm.rk d+1)).sum<=(m.to.map (fun d=>Gm.rk d+1)).sum:=by
  conv=>rhs;rw[<-List.take_append_drop j m.to,gq,List.sum_append]
  omega
 have h0:∀ k∈([769,776,803,837,945]:List Int),Gm.rk k=0:=by decide
 unfold Gm.Jf;rcases ht with e | ⟨k,e,hk⟩
 ·rw[e] at hs hr ⊢;have:=hr b (by simp);simp at hs ⊢;omega
 ·rw[e] at hs hr ⊢;have:=hr b (by simp);have:=h0 k hk;simp at hs ⊢;omega
theorem I_.some_ {B:Nat}{q:List Int}{w w':World}{e:Ending}(h:I_ B (some q) w e w')(hq:q≠[]):∃ b off c,e=.returned (.slice (some ⟨b,off,none⟩) q.length c)/\b<B/\Rd w B 1 (some ⟨b,off,none⟩) q.length (ints q)/\Below w.heap.size w w':=by
 obtain⟨hb,A,c,he,hr⟩:=h;obtain⟨b,off,hA,hlt,_⟩:=hr.2 (by rw[kH];exact dK.2 hq);subst hA;exact⟨b,off,c,he,hlt,hr,hb⟩
theorem I_.none_ {B:Nat}{w w':World}{e:Ending}(h:I_ B none w e w'):e=.returned (.slice none 0 0)/\Below w.heap.size w w':=⟨h.2,h.1⟩
section
variable {w:World} {B:Nat} {V:TV} {T:Gm.Tab}
theorem xZ (h:j_ w B V T)(hB:B<=w.heap.size)(c:Int):Calls Tryz.prog 191 #[.slice V.dec.A V.dec.n V.dec.c,.int .i64 c] w (I_ B (Gm.dec T c) w):=
 uZ _ _ _ T.dec c B _ h.dec hB (by have:=h.good.Fz;omega) h.good.Xr
def SzR (c:Int)(w:World)(e:Ending)(w':World):Prop:=∃ k:Nat,k<=Gm.rk c+1/\e=.returned (.int .i64 (k:Int))/\Below w.heap.size w w'
theorem size_any:∀ (n:Nat) (c:Int) (dep:Nat) (w:World),j_ w B V T->B<=w.heap.size->Gm.rk c<n->dep<=Gm.Qw T c->Calls Tryz.prog 190 #[kF V,.int .i64 c,.int .i64 (dep:Int)] w (SzR c w):=by
 intro n;induction n with
 | zero=>intro c dep w _ _ h;omega
 | succ n ih=>
  intro c dep w h hB hrk ahA;have F0:=jP (Fr.start h hB);clear h hB;have IH:=jP ih;clear ih;have HDE:=jP ahA;clear ahA;have hnn:=fun w:World=>jA (P:=Tryz.prog) w 22 3 none 0 0 0 0 bC;obtain⟨x0,x1,x2,x3,x4,x5,x6,x7,x8,x9,x10,x11⟩:=F0.1.cells;go_enter Tryz.func190,Tryz.ntmps190
  go_wp2_with fail
  clear x0 x1 x2 x3 x4 x5 x6 x7 x8 x9 x10 x11;refine (xZ F0.1.tb F0.1.hx c).mono ?_;intro e w1 he;cases hd:Gm.dec T c with
  | none=>
   rw[hd] at he;obtain⟨rfl,hb⟩:=he.none_;have F1:=jP (F0.1.step hb);clear hb F0 he hd;go_wp2_with fail
   go_ret
   exact⟨1,by omega,rfl,F1.1.bl⟩
  | some l=>
   rw[hd] at he;have hD:=F0.1.tb.good.sV hd;obtain⟨b,off,cc,rfl,hbB,hr,hb⟩:=he.some_ hD.ne.1;have F1:=jP (F0.1.step hb);have HR:=jP (hr.below (hb.mono F0.1.hx));have hle:l.length<=2:=hD.ne.2;have HK:=jP (show ∀ d∈l,Gm.rk d<n/\dep+1<=Gm.Qw T d from fun d hdl=>⟨by have:=hD.rk d hdl;simp only at this;omega,by have:=Gm.Qv hd (hD.lt d hdl);have:=HDE.1;omega⟩);have HS:=jP (show ∀ j,Gm.Jf l j<=Gm.rk c+1 from hD.Jf);have hdl:(dep:Int)<=(V.dec.n:Int)/\(V.dec.n:Int)<=5:=by
    have:=Gm.ahK hd;have:=HDE.1;have:=F0.1.tb.dec.1;have:=F0.1.tb.good.Fz;omega
   obtain⟨hd1,hd2⟩:=hdl;have hrc:=Gm.wL c;have x9:w1.cell? ⟨w.heap.size,9,none⟩=some (.slice V.dec.A V.dec.n V.dec.c):=F1.1.bx.cell 9;have hns:=fun w:World=>Lib.run_eql_slice_nil (P:=Tryz.prog) w 22 3 (some ⟨b,off,none⟩) l.length cc 0 0 bC;have hdb:decide (V.dec.n<dep)=false:=by simp;omega
   clear hb hr F0 he hd hD hnn;generalize hm:l.length=t at *;clear hm;go_wp2_with fail
   clear x9 hns;go_loopw [8,24] (fun vn i wr=>∃ (j k:Nat),j<=t/\i=.int .i64 j/\vn=.int .i64 k/\k<=Gm.Jf l j/\Below w1.heap.size w1 wr) (fun _ i _=>t-(intOf i).toNat)
   case atStart=>exact⟨0,0,by omega,rfl,rfl,by omega,ai _ _⟩
   case round=>
    obtain⟨j,k,hj,rfl,rfl,hk,hbr⟩:=hrel;have HI:=jP hbr;clear hbr;have hkb:k<=6:=by have:=HS.1 j;omega
    by_cases hjn:j<t
    ·obtain⟨b5,WB,d,hA,hb5,hat,hcell⟩:=jZ (HR.1.below (HI.1.mono F1.1.hx)) hjn;injection hA with hA;injection hA with hA1 hA2;subst hA1;subst hA2
     obtain⟨p0,p1⟩:=HK.1 d (ay hat);have hsu:=Gm.aa2 hat;have hs6:=HS.1 (j+1);have F2:=jP (F1.1.step HI.1);have HQ:=jP (IH.1 d (dep+1) wr F2.1.tb F2.1.hx p0 p1);have HSU:=jP hsu;have hdc:(((dep+1:Nat):Int))=(dep:Int)+1:=by omega
     rw[hdc] at HQ;clear hat p0 p1 hdc;obtain⟨x0,x1,x2,x3,x4,x5,x6,x7,x8,x9,x10,x11⟩:=F2.1.cells;go_wp2_with fail
     clear x0 x1 x2 x3 x4 x5 x6 x7 x8 x9 x10 x11 hcell;refine HQ.1.mono ?_;rintro e w4 ⟨y,hy,rfl,hb4⟩;have HI4:=jP (HI.1.trans (hb4.mono HI.1.size));have hkk:(k:Int)+(y:Int)<=18:=by omega
     clear hb4;go_wp2_with fail
     go_roundw
     case rel=>exact⟨j+1,k+y,by omega,by go_num,by go_num,by omega,HI4.1⟩
     case measure=>simp[intOf];omega
    ·obtain rfl:j=t:=by omega
     have HE:=jP (F1.1.step HI.1).bl;have HKB:=jP (show k<=Gm.rk c+1 from aK hk (HS.1 j));go_wp2_with fail
     go_ret
     exact⟨k,HKB.1,rfl,HE.1⟩
theorem LD (h:j_ w B V T)(hB:B<=w.heap.size):Calls Tryz.prog 132 #[kF V] w fun e w'=>e=.returned (.bool true)/\Below w.heap.size w w':=by
 have F0:=jP (Fr.start h hB);clear h hB;have ny:=jP F0.1.tb.dec;have hn:(V.dec.n:Int)<=5:=by have:=F0.1.tb.good.Fz;have:=F0.1.tb.dec.1;omega
 obtain⟨x0,x1,x2,x3,x4,x5,x6,x7,x8,x9,x10,x11⟩:=F0.1.cells;go_enter Tryz.func132,Tryz.ntmps132
 go_wp2_with fail
 clear x0 x1 x2 x3 x4 x5 x6 x7 x8 x9 x10 x11;generalize hw1:w.alloc (.cells (kK V) 26)=w1 at *;clear hw1;obtain⟨A,hA⟩:∃ A,A=V.dec.A:=⟨_,rfl⟩;rw[<-hA] at ny ⊢;have HA:=jP hA;clear hA;go_loopw [12] (fun i wr=>∃ k:Nat,k<=V.dec.n/\i=.int .i64 k/\Below w1.heap.size w1 wr) (fun i _=>V.dec.n-(intOf i).toNat)
 case atStart=>exact⟨0,by omega,rfl,ai _ _⟩
 case round=>
  obtain⟨j,hj,rfl,hbr⟩:=hrel;have HI:=jP hbr;clear hbr;by_cases hjn:j<V.dec.n
  ·obtain⟨b,off,m,A',c',rfl,hbB,hs,g0,g1,g2⟩:=rU (ny.1.below (HI.1.mono F0.1.hx)) hjn;have hD:=F0.1.tb.good.dec m (ay hs);have uo:=jP (HI.1.alloc HI.1.size (.cells #[.int .i64 m.f,.slice A' m.to.length c'] 89));have HT:=jP (g2.alloc (show B<=wr.heap.size by have:=HI.1.size;have:=F0.1.hx;omega) (.cells #[.int .i64 m.f,.slice A' m.to.length c'] 89));have HX:=jP (Bk.new wr 89 #[.int .i64 m.f,.slice A' m.to.length c']);have HSY:=jP hD.mF;have hl2:m.to.length<=2:=hD.ne.2;clear hs g2 hD;generalize hq:m.to=q at *;clear hq;generalize hmm:q.length=t at *;clear hmm;go_wp2_with fail
   generalize hwo:wr.alloc (.cells #[.int .i64 m.f,.slice A' t c'] 89)=wp at *;have hwp:w1.heap.size<=wp.heap.size:=uo.1.size;clear hwo g0 g1;go_loopw [23] (fun i wi=>∃ (p:Nat),p<=t/\i=.int .i64 p/\Below wp.heap.size wp wi) (fun i _=>t-(intOf i).toNat)
   case atStart=>exact⟨0,by omega,rfl,ai _ _⟩
   case round=>
    obtain⟨p,hp,rfl,hbp⟩:=hrel;have HP:=jP hbp;clear hbp;by_cases hpt:p<t
    ·obtain⟨b5,WB,c5,rfl,hb5,AX,Ff⟩:=jZ (HT.1.below (HP.1.mono (by have:=F0.1.hx;omega))) hpt;obtain⟨s1,s2,s3,_⟩:=HSY.1 c5 (ay AX);have HU:=jP (Gs c5);have HJ:=jP (IJ c5);rw[s1] at HU;rw[s2] at HJ;have h46:(c5==46)=false:=by simpa using s3
     clear AX s1 s2 s3;go_wp2_with (first | (go_at_call 188;refine (HU.1 _).mono ?_;rintro e w' ⟨rfl,rfl⟩) | (go_at_call 189;refine (HJ.1 _).mono ?_;rintro e w' ⟨rfl,rfl⟩))
     go_roundw
     case rel=>exact⟨p+1,by omega,by go_num,HP.1⟩
     case measure=>simp[intOf];omega
    ·obtain rfl:p=t:=by omega
     have HE:=jP (uo.1.trans (HP.1.mono hwp));go_wp2_with fail
     go_roundw
     case rel=>exact⟨j+1,by omega,by go_num,HE.1⟩
     case measure=>simp[intOf];omega
  ·have F2:=jP (F0.1.step HI.1);have I5:=jP (ny.1.below (HI.1.mono F0.1.hx));have x9:wr.cell? ⟨w.heap.size,9,none⟩=some (.slice A V.dec.n V.dec.c):=by rw[HA.1];exact F2.1.bx.cell 9
   clear ny F0;obtain⟨wo,rfl⟩:∃ wo:World,wo=wr:=⟨_,rfl⟩;go_wp2_with fail
   clear x9;go_loopw [42] (fun i wr=>∃ k:Nat,k<=V.dec.n/\i=.int .i64 k/\Below wo.heap.size wo wr) (fun i _=>V.dec.n-(intOf i).toNat)
   case atStart=>exact⟨0,by omega,rfl,ai _ _⟩
   case round=>
    obtain⟨k,hk,rfl,hbr⟩:=hrel;have HK:=jP hbr;clear hbr;by_cases hkn:k<V.dec.n
    ·obtain⟨b,off,m,A',c',rfl,hbB,hs,g0,g1,g2⟩:=rU (I5.1.below (HK.1.mono F2.1.hx)) hkn;have F3:=jP ((F2.1.step HK.1).alloc (.cells #[.int .i64 m.f,.slice A' m.to.length c'] 89));have uo:=jP (HK.1.alloc HK.1.size (.cells #[.int .i64 m.f,.slice A' m.to.length c'] 89));have H7:=jP (size_any 6 m.f 0 _ F3.1.tb F3.1.hx (by have:=Gm.wL m.f;omega) (by omega));have hrk:=Gm.wL m.f;have hzx:=(F2.1.step HK.1).sz;clear hs g2;obtain⟨x0,x1,x2,x3,x4,x5,x6,x7,x8,x9,x10,x11⟩:=F3.1.cells;go_wp2_with fail
     clear x0 x1 x2 x3 x4 x5 x6 x7 x8 x9 x10 x11 g0 g1;refine H7.1.mono ?_;rintro e w4 ⟨y,hy,rfl,hb4⟩;have HI4:=jP (uo.1.trans (hb4.mono (uo.1.size)));have hyy:(y:Int)<=18:=by omega
     clear hb4;go_wp2_with fail
     go_roundw
     case rel=>exact⟨k+1,by omega,by go_num,HI4.1⟩
     case measure=>simp[intOf];omega
    ·have HE:=jP (F2.1.step HK.1).bl;go_wp2_with fail
     go_ret
     exact⟨rfl,HE.1⟩
theorem QB (h:j_ w B V T)(hB:B<=w.heap.size):Calls Tryz.prog 133 #[kF V] w fun e w'=>e=.returned (.bool true)/\Below w.heap.size w w':=by
 have F0:=jP (Fr.start h hB);clear h hB;have ny:=jP F0.1.tb.exc;have hn:(V.exc.n:Int)<=5:=by have:=F0.1.tb.good.Lt;have:=lY F0.1.tb.exc;omega
 obtain⟨x0,x1,x2,x3,x4,x5,x6,x7,x8,x9,x10,x11⟩:=F0.1.cells;go_enter Tryz.func133,Tryz.ntmps133
 go_wp2_with fail
 clear x0 x1 x2 x3 x4 x5 x6 x7 x8 x9 x10 x11;generalize hw1:w.alloc (.cells (kK V) 26)=w1 at *;clear hw1;obtain⟨A,hA⟩:∃ A,A=V.exc.A:=⟨_,rfl⟩;rw[<-hA] at ny ⊢;clear hA;go_loopw [8] (fun i wr=>∃ k:Nat,k<=V.exc.n/\i=.int .i64 k/\Below w1.heap.size w1 wr) (fun i _=>V.exc.n-(intOf i).toNat)
 case atStart=>exact⟨0,by omega,rfl,ai _ _⟩
 case round=>
  obtain⟨j,hj,rfl,hbr⟩:=hrel;have HI:=jP hbr;clear hbr;by_cases hjn:j<V.exc.n
  ·obtain⟨b,off,c,rfl,hbB,hs,g0⟩:=jZ (ny.1.below (HI.1.mono F0.1.hx)) hjn;have F2:=jP (F0.1.step HI.1);obtain⟨q,hq⟩:∃ q,Gm.dec T c=some q:=by
    obtain⟨m,hm,hf⟩:=F0.1.tb.good.exc c (ay hs);cases hd:Gm.dec T c with
    | some q=>exact⟨q,rfl⟩
    | none=>
     exfalso;unfold Gm.dec Gm.pX at hd;rw[Option.map_eq_none_iff,jq] at hd;exact hd m hm (by simpa using hf)
   have uB:=(F0.1.tb.good.sV hq).ne.1;have hfd:=xZ F2.1.tb F2.1.hx c;rw[hq] at hfd;have F_:=jP hfd;have x9:wr.cell? ⟨w.heap.size,9,none⟩=some (.slice V.dec.A V.dec.n V.dec.c):=F2.1.bx.cell 9;clear hs hq hfd;go_wp2_with fail
   clear x9 g0;refine F_.1.mono ?_;intro e w4 he;obtain⟨b4,o4,c4,rfl,_,_,hb4⟩:=he.some_ uB;have hns:=fun w:World=>Lib.run_eql_slice_nil (P:=Tryz.prog) w 22 3 (some ⟨b4,o4,none⟩) q.length c4 0 0 bC;have HI4:=jP (HI.1.trans (hb4.mono HI.1.size));clear hb4 he uB;go_wp2_with fail
   clear hns;go_roundw
   case rel=>exact⟨j+1,by omega,by go_num,HI4.1⟩
   case measure=>simp[intOf];omega
  ·have HE:=jP (F0.1.step HI.1).bl;go_wp2_with fail
   go_ret
   exact⟨rfl,HE.1⟩
end
end Go.Proofs.YtkachcflifhgiaaGreatDoor
