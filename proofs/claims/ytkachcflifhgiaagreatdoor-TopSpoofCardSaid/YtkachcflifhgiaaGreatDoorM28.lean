/-         -/
import Derived.Test.YtkachcflifhgiaaGreatDoorM27
import Derived.Deep.MidRow
import Derived.Test.YtkachcflifhgiaaGreatDoorM12
set_option linter.unusedVariables false
set_option maxRecDepth 100000
set_option maxHeartbeats 16000000
namespace Go.Proofs.YtkachcflifhgiaaGreatDoor
open Go Go.RowKit Go.Shelf
variable {Vt:TV}
def Bs (w:World)(k:Cl)(j:Int)(b:Bool):Prop:=∃ o ph tx op ttl nv at_ rv p l,rJ w k.c k.b k.m o/\Box w k.b k.ch 8 l/\kC k.V w k.m j ph tx op ttl nv at_ rv p /\
 ((ph==0)=false/\b=true\/ph=0/\l=[]/\b=false\/∃ t,ph=0/\l=[t]/\b=true)
theorem Idle.bs {w:World}{k:Cl}{j:Int}(h:Idle w k j):Bs w k j false:=by
 obtain⟨o,tx,op,ttl,nv,at_,rv,p,a,b,c⟩:=h;exact⟨o,0,tx,op,ttl,nv,at_,rv,p,[],a,b,c,.inr (.inl ⟨rfl,rfl,rfl⟩)⟩
theorem Bs.below {w w':World}{k:Cl}{j:Int}{b:Bool}(h:Bs w k j b)(hb:Below w.heap.size w w'):Bs w' k j b:=by
 obtain⟨o,ph,tx,op,ttl,nv,at_,rv,p,l,a,c,d,e⟩:=h;exact⟨o,ph,tx,op,ttl,nv,at_,rv,p,l,Bk.below a hb a.lt,c.below hb c.lt.1 c.lt.2.1,d.below hb d.lt,e⟩
def busy (bs:Nat->Bool)(n:Nat):List Int:=((List.range n).filter bs).map Int.ofNat
theorem Ns (bs:Nat->Bool)(n:Nat):busy bs (n+1)=busy bs n++(if bs n then [(n:Int)] else []):=by
 unfold busy;rw[List.range_succ,iD,gq];congr 1
 cases h:bs n<;>simp[h]
theorem ac5 (bs:Nat->Bool)(n:Nat):(busy bs n).length<=n:=by
 unfold busy;rw[bH];exact aK (List.length_filter_le _ _) (by simp)
theorem QY {w:World}{B:Nat}{d s cw n nc:Nat}{steps:Int}{ov:Value}{L:List Cl}(bs:Nat->Bool)(h:nP w d s (.slice (some ⟨cw,0,none⟩) n nc) steps ov)
  (hr:w.ownsRow B 113 1 (.slice (some ⟨cw,0,none⟩) n nc) n (qI L)) (hL:L.length=n) (hn:n<=64) (hb:∀ (j:Nat) (k:Cl),L[j]?=some k->Bs w k (j:Int) (bs j)) :
  Calls Tryz.prog 16 #[.pointer (some ⟨d,0,none⟩)] w fun e w'=>∃ A m c,e=.returned (.slice A m c)/\m=(busy bs n).length/\w'.ownsRow w.heap.size 3 1 (.slice A m c) m (ints (busy bs n))/\Below w.heap.size w w':=by
 have y1:=h.c1;have hcl:=jP (fun (j:Nat) (k:Cl) (hj:L[j]?=some k)=>(qj hr (QN hj)).1);have alR:cw<w.heap.size\/n=0:=by
  rcases hr.2 with ⟨h1,_⟩ | ⟨g',cap,cur,h1,h2,h3,h4,h5,h6,h7⟩
  ·cases h1
  ·injection h1 with e1 _ e3
   injection e1 with e1;injection e1 with e1 _ _
   subst e1;exact .inl (Bk.lt h3)
 have HB:=jP hb;clear h hr hb;go_enter Tryz.func16,Tryz.ntmps16
 go_wp2_with fail
 go_loopw [3,11] (fun vl vi wr=>∃ (k m:Nat) (A:Option Addr) (c:Nat),k<=n/\vi=.int .i64 k/\vl=.slice A m c/\m=(busy bs k).length/\wr.ownsRow w.heap.size 3 1 (.slice A m c) m (ints (busy bs k))/\Below w.heap.size w wr) (fun _ vi _=>n-(intOf vi).toNat)
 case atStart=>exact⟨0,0,none,0,by omega,rfl,rfl,rfl,aH _ _ _ _,ai _ _⟩
 case round=>
  obtain⟨k,m,A2,c2,hk,rfl,rfl,hm,ho,hb⟩:=hrel;have HO:=jP ho;have HW:=jP hb;have HM:=jP hm;have hsw:=hb.size;have hml:m<=n:=by have:=ac5 bs k;omega
  clear ho hb hm;by_cases hlt:k<n
  ·obtain⟨kc,hkc⟩:∃ kc,L[k]?=some kc:=⟨L[k],au (by omega)⟩;have q0:=(HW.1.cell (p:=⟨cw,k,none⟩) (alR.resolve_right (by omega))).trans (hcl.1 k kc hkc);obtain⟨o,ph,tx,op,ttl,nv,at_,rv,p,l,a,b,c,hcase⟩:=(HB.1 k kc hkc).below HW.1;have hsc:=Ns bs k;have z0:=a.c0;have z1:=a.c1;have qy:=jP b;have HMA:=jP c;clear a b c;rcases hcase with ⟨wY,hbk⟩ | ⟨rfl,rfl,hbk⟩ | ⟨t,rfl,rfl,hbk⟩
   ·have ao6:(ph != 0)=true:=by simp[bne,wY]
    have ao5:¬ph=0:=by simpa using wY
    rw[hbk,aj rfl] at hsc;have HS:=jP hsc;clear hsc hbk;go_wp2_with fail
    refine (yN _ _ _ _ _ _ _ _ _ _ _ HMA.1).mono ?_;rintro e w1 ⟨rfl,rfl⟩;go_wp2_with (at_builtin;refine kW (by rfl) _ _ rfl (base:=w.heap.size) rfl (HO.1.alloc _) rfl (kG (z:=w1.heap.size) rfl (k:Int)) (by omega) (by simp<;>omega) ?_)
    intro A4 c4 w4 kQ hg4 hc4;have HB4:=jP (own_below HO.1 HW.1 _ hg4 (by omega));have lC:=jP (show w4.ownsRow w.heap.size 3 1 (.slice A4 (m+1) c4) (m+1) (ints (busy bs (k+1))) by rw[HS.1];exact kQ);have hl4:m+1=(busy bs (k+1)).length:=by rw[HS.1,aA,<-HM.1];rfl
    have Eu:=jP hl4;clear kQ hg4 hc4 z0 z1 q0 hl4;go_wp2_with fail
    go_roundw
    case rel=>exact⟨k+1,m+1,A4,c4,by omega,by go_num,rfl,Eu.1,lC.1,HB4.1⟩
    case measure=>simp[intOf];omega
   ·rw[hbk] at hsc;have HS:=jP (show busy bs (k+1)=busy bs k by rw[hsc];simp);clear hsc hbk;go_wp2_with fail
    refine (yN _ _ _ _ _ _ _ _ _ _ _ HMA.1).mono ?_;rintro e w1 ⟨rfl,rfl⟩;go_wp2_with fail
    refine (len_any _ _ _ _ _ qy.1).mono ?_;rintro e w2 ⟨rfl,rfl⟩;go_wp2_with fail
    go_roundw
    case rel=>exact⟨k+1,m,A2,c2,by omega,by go_num,rfl,by rw[HS.1];exact HM.1,by rw[HS.1];exact HO.1,HW.1⟩
    case measure=>simp[intOf];omega
   ·rw[hbk,aj rfl] at hsc;have HS:=jP hsc;clear hsc hbk;go_wp2_with fail
    refine (yN _ _ _ _ _ _ _ _ _ _ _ HMA.1).mono ?_;rintro e w1 ⟨rfl,rfl⟩;go_wp2_with fail
    refine (len_any _ _ _ _ _ qy.1).mono ?_;rintro e w2 ⟨rfl,rfl⟩;go_wp2_with (at_builtin;refine kW (by rfl) _ _ rfl (base:=w.heap.size) rfl (HO.1.alloc _) rfl (kG rfl (k:Int)) (by omega) (by simp<;>omega) ?_)
    intro A4 c4 w4 kQ hg4 hc4;have HB4:=jP (own_below HO.1 HW.1 _ hg4 (by omega));have lC:=jP (show w4.ownsRow w.heap.size 3 1 (.slice A4 (m+1) c4) (m+1) (ints (busy bs (k+1))) by rw[HS.1];exact kQ);have hl4:m+1=(busy bs (k+1)).length:=by rw[HS.1,aA,<-HM.1];rfl
    have Eu:=jP hl4;clear kQ hg4 hc4 z0 z1 q0 hl4;go_wp2_with fail
    go_roundw
    case rel=>exact⟨k+1,m+1,A4,c4,by omega,by go_num,rfl,Eu.1,lC.1,HB4.1⟩
    case measure=>simp[intOf];omega
  ·obtain rfl:k=n:=by omega
   go_wp2_with fail
   go_ret
   exact⟨A2,m,c2,rfl,HM.1,HO.1,HW.1⟩
end Go.Proofs.YtkachcflifhgiaaGreatDoor
namespace Go.Proofs.YtkachcflifhgiaaGreatDoor
open Go Go.RowKit Go.Shelf
variable {Vt:TV}
def nB (j N:Nat):Nat:=if j<N then 1 else 0
def lB (i j N:Nat):List Int:=if j<N then [(i:Int)] else []
theorem Og {j N:Nat}(h:j<N):nB j N=1:=aj h
theorem WI {j N:Nat}(h:¬j<N):nB j N=0:=ah h
theorem adJ {i j N:Nat}(h:j<N):lB i j N=[(i:Int)]:=aj h
theorem ajG {i j N:Nat}(h:¬j<N):lB i j N=[]:=ah h
def aew (i N j:Nat)(w:World)(e:Ending)(w':World):Prop:=∃ A c,e=.returned (.slice A (nB j N) c) /\
 w'.ownsRow w.heap.size 3 1 (.slice A (nB j N) c) (nB j N) (ints (lB i j N))/\Below w.heap.size w w'
theorem We {w:World}{d i N:Nat}{steps most:Int}(Q:Nat->Int->World->Prop)
  (hD:∀ j st w,Q j st w->∃ s cv ov,nP w d s cv st ov) (hBe:∀ j st w w',Q j st w->Below w.heap.size w w'->Q j st w')
  (hSt:∀ j st st' w,Q j st w->Q j st' (w.setCell ⟨d,2,none⟩ (.int .i64 st')))
  (adV:∀ j st w,j<=N->Q j st w->Calls Tryz.prog 16 #[.pointer (some ⟨d,0,none⟩)] w (aew i N j w))
  (Om:∀ j w,j<N->Q j (steps+j) w->Calls Tryz.prog 48 #[.pointer (some ⟨d,0,none⟩),.int .i64 (i:Int),.int .i64 (steps+j)] w fun e w'=>e=.returned (.bool true)/\Q (j+1) (steps+j) w')
  (JM:(N:Int)<most) (hN:N<=100) (hst:0<=steps/\steps<=1000000) (h0:Q 0 steps w) :
  Calls Tryz.prog 17 #[.pointer (some ⟨d,0,none⟩),.int .i64 most] w fun e w'=>e=.returned (.int .i64 (N:Int))/\Q N (steps+N) w':=by
 have HD:=jP hD;have HBe:=jP hBe;have HSt:=jP hSt;have HBu:=jP adV;have HPi:=jP Om;have HQ:=jP h0;clear hD hBe hSt adV Om h0;go_enter Tryz.func17,Tryz.ntmps17
 go_wp2_with fail
 refine (HBu.1 0 steps w (by omega) HQ.1).mono ?_;rintro e w1 ⟨A1,c1,rfl,ho1,hb1⟩;have HQ1:=jP (HBe.1 _ _ _ _ HQ.1 hb1);have nT:=jP (xY ho1 (iY _));clear ho1 hb1 HQ;go_wp2_with fail
 go_loopw [5,6] (fun vn vb wr=>∃ (j:Nat) (A:Option Addr) (c:Nat),j<=N/\vn=.int .i64 j/\vb=.slice A (nB j N) c/\wr.ownsRow 0 3 1 (.slice A (nB j N) c) (nB j N) (ints (lB i j N))/\Q j (steps+j) wr) (fun vn _ _=>N-(intOf vn).toNat)
 case atStart=>exact⟨0,A1,c1,by omega,rfl,rfl,nT.1,by simpa using HQ1.1⟩
 case round=>
  obtain⟨j,A,c,hj,rfl,rfl,ho,hq⟩:=hrel;have HQj:=jP hq;clear hq;by_cases hlt:j<N
  ·rw[Og hlt,adJ hlt] at ho;rw[Og hlt];obtain⟨g,rfl,_,hgl,hgc,hc0,_⟩:=xw ho (by omega);have q0:=hc0 0 _ rfl;clear ho hc0;obtain⟨s,cv,ov,hd⟩:=HD.1 _ _ _ HQj.1;have y2:=hd.c2;have hjm:(j:Int)<most:=by omega
   have hwr:IntKind.i64.wrap (steps+↑j+1)=steps+↑j+1:=aW _ (by omega);have UT:IntKind.i64.wrap (↑j+1)=↑j+1:=aW _ (by omega);clear hd;go_wp2_with fail
   refine fG 2 ?_;rw[dN];go_wp2_with fail
   refine (HPi.1 j wr hlt HQj.1).mono ?_;rintro e w2 ⟨rfl,hq2⟩;have HQ2:=jP hq2;clear hq2 y2 q0;obtain⟨s,cv,ov,hd⟩:=HD.1 _ _ _ HQ2.1;have y2:=hd.c2;have f2:=hd.fr 2;clear hd;go_wp2_with fail
   have vK:=jP (show Q (j+1) (steps+((j+1:Nat):Int)) _ from by rw[show steps+((j+1:Nat):Int)=steps+↑j+1 by omega];exact HSt.1 _ _ (steps+↑j+1) _ HQ2.1);generalize hw3:w2.setCell ⟨d,2,none⟩ (.int .i64 (steps+↑j+1))=w3 at *;clear hw3 y2 f2 HQ2 HQj;rw[dN];go_wp2_with fail
   refine (HBu.1 _ _ _ (by omega) vK.1).mono ?_;rintro e w4 ⟨A4,c4,rfl,kQ,hb4⟩;have H9:=jP (HBe.1 _ _ _ _ vK.1 hb4);have lC:=jP (xY kQ (iY _));clear kQ hb4 vK;go_wp2_with fail
   go_roundw
   case rel=>exact⟨j+1,A4,c4,by omega,by go_num,rfl,lC.1,H9.1⟩
   case measure=>simp[intOf];omega
  ·obtain rfl:j=N:=by omega
   rw[WI hlt];have HQe:=jP (show Q j (steps+↑j) wr from HQj.1);clear ho;go_wp2_with fail
   go_ret
   exact⟨rfl,HQe.1⟩
end Go.Proofs.YtkachcflifhgiaaGreatDoor
namespace Go.Proofs.YtkachcflifhgiaaGreatDoor
open Go Go.RowKit Go.Shelf
variable {Vt:TV}
section
variable {w w':World} {B:Nat} {I:nY} {L:List Cl} {i:Nat} {k:Cl} {xs:List Opn} {K:List Nat} {ts:List TypeId} {n lim now cnt:Int}
variable {st st':Int} {x:Nm} {op ttl ph:Int} {p p':Rs} {ans:Int} {kP:Rs} {r:lZ} {r0:Rc} {V:World->Value->Prop} {t:ByteArray}
def ZQ:List TypeId:=[109]
def LY (I:nY)(st st':Int)(w w':World):Prop:=∀ cv ov,nP w I.d I.s cv st ov->nP w' I.d I.s cv st' ov
theorem Start.ty (h:Start B I L i k xs t st w)(ho:jR K w w')(hK:lg w K ZQ)(hd:LY I st st' w w'):Start B I L i k xs t st' w':=by
 obtain⟨oA,oc,o,tx,op,ttl,nv,at_,rv,p,a,b,c,d,e⟩:=h.ex;exact⟨h.fx.ty' ho d.bk hK (by decide) (by decide) (by decide) (by decide) (by decide),oA,oc,o,tx,op,ttl,nv,at_,rv,p,hd _ _ a,b.jS ho (hK.no b.bk (by decide)),c.ty ho hK (by decide),d.jS ho (hK.no d.bk (by decide)),rY e ho hK (by decide)⟩
theorem Bz.mv {oA:Option Addr}{oc:Nat}{o:Opn}{cs:Array Value}(h:Bz w B I L i k xs st oA oc o)(hm:Bk w k.m 156 cs)(ho:jR K w w')(hK:lg w K ZQ)(hd:LY I st st' w w'):Bz w' B I L i k xs st' oA oc o:=
 ⟨h.fx.ty' ho hm hK (by decide) (by decide) (by decide) (by decide) (by decide),hd _ _ h.d,h.c.jS ho (hK.no h.c.bk (by decide)),h.b.ty ho hK (by decide),rY h.r ho hK (by decide)⟩
theorem CJ.ty (h:CJ B I L i k xs t st w)(ho:jR K w w')(hK:lg w K ZQ)(hd:LY I st st' w w'):CJ B I L i k xs t st' w':=by
 obtain⟨oA,oc,begun,a,b⟩:=h.ex;exact⟨oA,oc,begun,a.mv b.bk ho hK hd,b.jS ho (hK.no b.bk (by decide))⟩
theorem Mid.ty (h:Mid B I L i k xs x op ttl ph V p ans kP st w)(hV:FM V)(ho:jR K w w')(hK:lg w K ZQ)(hd:LY I st st' w w'):Mid B I L i k xs x op ttl ph V p ans kP st' w':=by
 obtain⟨oA,oc,q,cq,A',c',rv,tx,begun,dec,a,b,c,d,e⟩:=h.ex;exact⟨oA,oc,q,cq,A',c',rv,tx,begun,dec,a.mv c.bk ho hK hd,rY b ho hK (by decide),c.jS ho (hK.no c.bk (by decide)),rY d ho hK (by decide),hV _ _ _ _ e ho (hK.mono (by decide))⟩
structure Ok (I:nY)(L:List Cl)(i:Nat)(k:Cl)(B:Nat)(xs:List Opn)(b:Bool)(P:Int->World->Prop):Prop where
 mv:∀ st st' w w' K,P st w->jR K w w'->lg w K ZQ->LY I st st' w w'->P st' w'
 d:∀ st w,P st w->∃ ov,nP w I.d I.s (.slice (some ⟨I.cw,0,none⟩) L.length I.nc) st ov
 bs:∀ st w,P st w->Fx w B I L i k xs/\Bs w k (i:Int) b
theorem QX (i n:Nat):busy (fun c=>c==i) n=if i<n then [(i:Int)] else []:=by
 induction n with
 | zero=>rfl
 | succ n ih=>
  rw[Ns,ih];by_cases h:n=i
  ·subst h;simp
  ·have h1:(n==i)=false:=by simpa using h
   rw[h1];by_cases h2:i<n
   ·have h3:i<n+1:=by omega
    simp[h2,h3]
   ·have h3:¬i<n+1:=by omega
    simp[h2,h3]
theorem Nu (n:Nat):busy (fun _=>false) n=[]:=by simp[busy]
theorem Ok.below {b:Bool}{P:Int->World->Prop}(h:Ok I L i k B xs b P)(hp:P st w)(hb:Below w.heap.size w w'):P st w':=
 h.mv st st w w' [] hp (jR.below hb (ag _)) lg.nil (fun cv ov hd=>hd.jS (jR.below (S:=[]) hb (ag _)) (by simp))
theorem Ok.busy {b:Bool}{P:Int->World->Prop}{N j:Nat}(h:Ok I L i k B xs b P)(hb:b=decide (j<N))(hL:L.length<=64)(hp:P st w):Calls Tryz.prog 16 #[.pointer (some ⟨I.d,0,none⟩)] w (aew i N j w):=by
 obtain⟨ov,hd⟩:=h.d st w hp;obtain⟨hf,hbs⟩:=h.bs st w hp;have key:∀ (bs:Nat->Bool),bs i=b->(∀ j:Nat,j≠i->bs j=false)->∀ (j:Nat) (k':Cl),L[j]?=some k'->Bs w k' (j:Int) (bs j):=by
  intro bs h1 h2 j k' hk';by_cases hj:j=i
  ·subst hj;rw[hf.me] at hk';injection hk' with hk'
   rw[h1,<-hk'];exact hbs
  ·rw[h2 j hj];exact (hf.jS j k' hj hk').bs
 by_cases hlt:j<N
 ·have hb1:b=true:=by rw[hb];simpa using hlt
  refine (QY (fun c=>c==i) hd hf.row rfl hL (key _ (by simp[hb1]) (by intro j hj;simpa using hj))).mono ?_;rintro e w' ⟨A,m,c,rfl,rfl,ho,hbl⟩;rw[QX,aj hf.lt] at ho;refine⟨A,c,?_,?_,hbl⟩
  ·rw[QX,aj hf.lt,Og hlt];rfl
  ·rw[Og hlt,adJ hlt];exact ho
 ·have hb1:b=false:=by rw[hb];simpa using hlt
  refine (QY (fun c=>false) hd hf.row rfl hL (key _ (by simp[hb1]) (by intro j hj;rfl))).mono ?_;rintro e w' ⟨A,m,c,rfl,rfl,ho,hbl⟩;rw[Nu] at ho;refine⟨A,c,?_,?_,hbl⟩
  ·rw[Nu,WI hlt];rfl
  ·rw[WI hlt,ajG hlt];exact ho
theorem MF {N:Nat}{steps most:Int}(P:Nat->Int->World->Prop)(hok:∀ j,j<=N->Ok I L i k B xs (decide (j<N)) (P j))(hL:L.length<=64)
  (Om:∀ j w2,j<N->P j (steps+j) w2->Past I B w w2->Calls Tryz.prog 48 #[.pointer (some ⟨I.d,0,none⟩),.int .i64 (i:Int),.int .i64 (steps+j)] w2 fun e w'=>e=.returned (.bool true)/\P (j+1) (steps+j) w'/\Past I B w2 w')
  (JM:(N:Int)<most) (hN:N<=100) (hst:0<=steps/\steps<=1000000) (h0:P 0 steps w) :
  Calls Tryz.prog 17 #[.pointer (some ⟨I.d,0,none⟩),.int .i64 most] w fun e w'=>e=.returned (.int .i64 (N:Int))/\P N (steps+N) w'/\Past I B w w':=by
 refine (We (d:=I.d) (i:=i) (N:=N) (steps:=steps) (fun j st w'=>j<=N/\P j st w'/\Past I B w w') ?_ ?_ ?_ ?_ ?_ JM hN hst ⟨iY _,h0,Past.refl _ _ _⟩).mono ?_
 ·rintro j st w ⟨hj,hp,_⟩;obtain⟨ov,hd⟩:=(hok j hj).d st w hp;exact⟨_,_,ov,hd⟩
 ·rintro j st w w' ⟨hj,hp,hpa⟩ hb;exact⟨hj,(hok j hj).below hp hb,hpa.trans (Past.of_below hb)⟩
 ·rintro j st st' w ⟨hj,hp,hpa⟩;obtain⟨ov,hd⟩:=(hok j hj).d st w hp;have ho:=(jR.refl [I.d] w).setCell (p:=⟨I.d,2,none⟩) (.inl (by simp)) (.int .i64 st');exact⟨hj,(hok j hj).mv st st' w _ [I.d] hp ho (lg.one hd.bk) (fun cv ov hd=>hd.adC st'),hpa.trans (Past.of ho (by simpa using ((hok j hj).bs st w hp).1.lo I.d (by simp)))⟩
 ·rintro j st w hj ⟨_,hp,_⟩;exact (hok j hj).busy rfl hL hp
 ·rintro j w hj ⟨_,hp,hpa⟩;refine (Om j w hj hp hpa).mono ?_;rintro e w' ⟨a,b,c⟩;exact⟨a,by omega,b,hpa.trans c⟩
 ·rintro e w' ⟨a,_,b,c⟩;exact⟨a,b,c⟩
theorem Ok.start (I:nY)(L:List Cl)(i:Nat)(k:Cl)(B:Nat)(xs:List Opn)(t:ByteArray)(n lim now cnt:Int)(x:Nm)(r:lZ):Ok I L i k B xs true (fun st w=>Start B I L i k xs t st w/\qw I n lim now cnt x r w):=by
 refine⟨fun st st' w w' K h ho hK hd=>⟨h.1.ty ho hK hd,h.2.ty ho hK (by decide)⟩,fun st w h=>?_,fun st w h=>⟨h.1.fx,?_⟩⟩
 ·obtain⟨oA,oc,o,tx,op,ttl,nv,at_,rv,p,a,b,c,d,e⟩:=h.1.ex;exact⟨_,a⟩
 ·obtain⟨oA,oc,o,tx,op,ttl,nv,at_,rv,p,a,b,c,d,e⟩:=h.1.ex;exact⟨o,0,tx,op,ttl,nv,at_,rv,p,_,b,c,d,.inr (.inr ⟨t,rfl,rfl,rfl⟩)⟩
theorem Ok.begun (I:nY)(L:List Cl)(i:Nat)(k:Cl)(B:Nat)(xs:List Opn)(t:ByteArray)(n lim now cnt:Int)(x:Nm)(r:lZ):Ok I L i k B xs true (fun st w=>CJ B I L i k xs t st w/\qw I n lim now cnt x r w):=by
 refine⟨fun st st' w w' K h ho hK hd=>⟨h.1.ty ho hK hd,h.2.ty ho hK (by decide)⟩,fun st w h=>?_,fun st w h=>?_⟩
 ·obtain⟨oA,oc,b,a,c⟩:=h.1.ex;exact⟨_,a.d⟩
 ·obtain⟨oA,oc,b,a,c⟩:=h.1.ex;exact⟨a.fx,_,1,_,_,_,_,_,_,_,_,a.c,a.b,c,.inl ⟨rfl,rfl⟩⟩
theorem Ok.mid (I:nY)(L:List Cl)(i:Nat)(k:Cl)(B:Nat)(xs:List Opn)(x:Nm)(op ttl ph:Int)(V:World->Value->Prop)(p:Rs)(ans:Int)(kP:Rs)(wY:(ph==0)=false)(hV:FM V):Ok I L i k B xs true (Mid B I L i k xs x op ttl ph V p ans kP):=by
 refine⟨fun st st' w w' K h ho hK hd=>h.ty hV ho hK hd,fun st w h=>?_,fun st w h=>?_⟩
 ·obtain⟨oA,oc,q,cq,A',c',rv,tx,begun,dec,a,b,c,d,e⟩:=h.ex;exact⟨_,a.d⟩
 ·obtain⟨oA,oc,q,cq,A',c',rv,tx,begun,dec,a,b,c,d,e⟩:=h.ex;exact⟨a.fx,_,ph,_,_,_,_,_,_,_,_,a.c,a.b,c,.inl ⟨wY,rfl⟩⟩
theorem Ok.done (I:nY)(L:List Cl)(i:Nat)(k:Cl)(B:Nat)(xs:List Opn)(x:Nm)(op ttl:Int)(V:World->Value->Prop)(p:Rs)(kP:Rs)(hV:FM V):Ok I L i k B xs false (fun st w=>∃ ans,0<=ans/\Mid B I L i k xs x op ttl 0 V p ans kP st w):=by
 refine⟨fun st st' w w' K h ho hK hd=>?_,fun st w h=>?_,fun st w h=>?_⟩
 ·obtain⟨ans,h0,h⟩:=h;exact⟨ans,h0,h.ty hV ho hK hd⟩
 ·obtain⟨ans,h0,h⟩:=h;obtain⟨oA,oc,q,cq,A',c',rv,tx,begun,dec,a,b,c,d,e⟩:=h.ex;exact⟨_,a.d⟩
 ·obtain⟨ans,h0,h⟩:=h;obtain⟨oA,oc,q,cq,A',c',rv,tx,begun,dec,a,b,c,d,e⟩:=h.ex;exact⟨a.fx,_,0,_,_,_,_,_,_,_,_,a.c,a.b,c,.inr (.inl ⟨rfl,rfl,rfl⟩)⟩
theorem S_ {nm:List UInt8}{k0:Nat}{gr steps most:Int}(h:Start B I L i k xs t steps w)(hsh:qw I n lim now cnt x r w)(hL:L.length<=64)(hxs:xs.length<=100)
  (hq:Rq.parse (lst t)=⟨1,ttl,[nm],0⟩) (htb:Bi I B k.V w) (hro:r.ok) (hU:r.U<=11) (hn:(str nm).size<=1000000) (hmk:Gm.make I.T [str nm]=([(x,k0)],Rs.fine)) (hk:x.k.size<=1000000) (ha0:0<x.a.size) (ha1:x.a.size<=63) (JM:8<most) (hst:0<=steps/\steps<=1000000)
  (hr:r.get x=r0) (hlv:r0.live now=false) (t1:1<=ttl) (t2:now+ttl<=1073741824) (hgr:1-r0.st=gr) (hcap:(gr=1/\cnt<lim)\/gr=0) (hrs:r0.st=0\/r0.st=1) (h0:0<=now) (hcnt:0<=cnt/\cnt<=1000) :
  Calls Tryz.prog 17 #[.pointer (some ⟨I.d,0,none⟩),.int .i64 most] w fun e w'=>e=.returned (.int .i64 8)/\(∃ ans,0<=ans/\Mid B I L i k xs x 1 ttl 0 (V7 I n lim now (cnt+gr) x (r.put x ⟨1,(i:Int),x.a,now+ttl⟩)) ⟨0,-1,ByteArray.empty,Rc.none,now⟩ ans ⟨0,-1,ByteArray.empty,Rc.none,now⟩ (steps+8) w')/\Past I B w w':=by
 have hi:=h.fx.lt;refine MF (N:=8) (B:=B) (i:=i) (k:=k) (xs:=xs) (fun j=>match j with
  | 0=>fun st w=>Start B I L i k xs t st w/\qw I n lim now cnt x r w
  | 1=>fun st w=>CJ B I L i k xs t st w/\qw I n lim now cnt x r w
  | 2=>Mid B I L i k xs x 1 ttl 2 (V2 I n lim now cnt x r) Rs.zero (-1) Rs.zero
  | 3=>Mid B I L i k xs x 1 ttl 3 (V3 I n lim now cnt x i r) Rs.zero (-1) Rs.zero
  | 4=>Mid B I L i k xs x 1 ttl 4 (V4 B I n lim now cnt x i r r0) Rs.zero (-1) Rs.zero
  | 5=>Mid B I L i k xs x 1 ttl 5 (V4 B I n lim now (cnt+gr) x i r ⟨1,(i:Int),x.a,now+ttl⟩) ⟨0,-1,ByteArray.empty,Rc.none,now⟩ (-1) ⟨0,-1,ByteArray.empty,Rc.none,now⟩
  | 6=>Mid B I L i k xs x 1 ttl 6 (V6 I n lim now (cnt+gr) x i (r.put x ⟨1,(i:Int),x.a,now+ttl⟩)) ⟨0,-1,ByteArray.empty,Rc.none,now⟩ (-1) ⟨0,-1,ByteArray.empty,Rc.none,now⟩
  | 7=>Mid B I L i k xs x 1 ttl 7 (V7 I n lim now (cnt+gr) x (r.put x ⟨1,(i:Int),x.a,now+ttl⟩)) ⟨0,-1,ByteArray.empty,Rc.none,now⟩ (-1) ⟨0,-1,ByteArray.empty,Rc.none,now⟩
  | _=>fun st w=>∃ ans,0<=ans/\Mid B I L i k xs x 1 ttl 0 (V7 I n lim now (cnt+gr) x (r.put x ⟨1,(i:Int),x.a,now+ttl⟩)) ⟨0,-1,ByteArray.empty,Rc.none,now⟩ ans ⟨0,-1,ByteArray.empty,Rc.none,now⟩ st w) ?_ hL ?_ JM (by omega) hst ⟨h,hsh⟩
 ·intro j hj;match j,hj with
  | 0,_=>exact Ok.start ..
  | 1,_=>exact Ok.begun ..
  | 2,_=>exact Ok.mid (wY:=rfl) (hV:=VS) ..
  | 3,_=>exact Ok.mid (wY:=rfl) (hV:=VR) ..
  | 4,_=>exact Ok.mid (wY:=rfl) (hV:=EJ) ..
  | 5,_=>exact Ok.mid (wY:=rfl) (hV:=EJ) ..
  | 6,_=>exact Ok.mid (wY:=rfl) (hV:=OE) ..
  | 7,_=>exact Ok.mid (wY:=rfl) (hV:=Iq) ..
  | 8,_=>exact Ok.done (hV:=Iq) ..
 ·intro j w hj hp hpa;match j,hj with
  | 0,_=>
   obtain⟨hp,hne,lO,hs⟩:=hp;exact (J8 _ hp hL hxs hs).mono fun e w' ⟨a,b,c,d⟩=>⟨a,⟨b,hne,lO,c⟩,d⟩
  | 1,_=>exact Jv (htb.past hpa) hn hmk _ hp.1 hL hxs hp.2 rfl hq
  | 2,_=>exact ML _ hp hL hxs (by omega) rfl hk
  | 3,_=>subst hr;exact MK hro _ hp hL hxs (by omega) rfl hk
  | 4,_=>exact YC _ hp hL hxs hlv t1 t2 hgr hcap hrs h0 hcnt
  | 5,_=>exact Wx hro hU _ hp hL hxs rfl hk ⟨rfl,by show (0:Int)<=(i:Int);omega,by show (i:Int)<64;omega,by show 0<x.a.size;omega,by show x.a.size<=63;omega,by show 1<=now+ttl;omega,by show now+ttl<=1073741824;omega⟩
  | 6,_=>exact MM _ hp hL hxs (by omega) rfl hk
  | 7,_=>exact (Ju _ hp hL hxs rfl).mono fun e w' ⟨a,b,c⟩=>⟨a,⟨_,by omega,b⟩,c⟩
theorem Tc {nm:List UInt8}{k0:Nat}{steps most:Int}(h:Start B I L i k xs t steps w)(hsh:qw I n lim now cnt x r w)(hL:L.length<=64)(hxs:xs.length<=100)
  (hq:Rq.parse (lst t)=⟨1,ttl,[nm],0⟩) (htb:Bi I B k.V w) (hro:r.ok) (hU:r.U<=11) (hn:(str nm).size<=1000000) (hmk:Gm.make I.T [str nm]=([(x,k0)],Rs.fine)) (hk:x.k.size<=1000000) (ha0:0<x.a.size) (ha1:x.a.size<=63) (JM:8<most) (hst:0<=steps/\steps<=1000000)
  (hr:r.get x=r0) (hlv:r0.live now=true) (t1:1<=ttl) (t2:now+ttl<=1073741824) (hrs:r0.st=0\/r0.st=1) (h0:0<=now) (hcnt:0<=cnt/\cnt<=1000) :
  Calls Tryz.prog 17 #[.pointer (some ⟨I.d,0,none⟩),.int .i64 most] w fun e w'=>e=.returned (.int .i64 7)/\(∃ ans,0<=ans/\Mid B I L i k xs x 1 ttl 0 (V7 I n lim now cnt x r) ⟨24,0,x.a,Rc.none,now⟩ ans ⟨24,0,x.a,Rc.none,now⟩ (steps+7) w')/\Past I B w w':=by
 have hi:=h.fx.lt;refine MF (N:=7) (B:=B) (i:=i) (k:=k) (xs:=xs) (fun j=>match j with
  | 0=>fun st w=>Start B I L i k xs t st w/\qw I n lim now cnt x r w
  | 1=>fun st w=>CJ B I L i k xs t st w/\qw I n lim now cnt x r w
  | 2=>Mid B I L i k xs x 1 ttl 2 (V2 I n lim now cnt x r) Rs.zero (-1) Rs.zero
  | 3=>Mid B I L i k xs x 1 ttl 3 (V3 I n lim now cnt x i r) Rs.zero (-1) Rs.zero
  | 4=>Mid B I L i k xs x 1 ttl 4 (V4 B I n lim now cnt x i r r0) Rs.zero (-1) Rs.zero
  | 5=>Mid B I L i k xs x 1 ttl 6 (V6 I n lim now cnt x i r) ⟨24,0,x.a,Rc.none,now⟩ (-1) ⟨24,0,x.a,Rc.none,now⟩
  | 6=>Mid B I L i k xs x 1 ttl 7 (V7 I n lim now cnt x r) ⟨24,0,x.a,Rc.none,now⟩ (-1) ⟨24,0,x.a,Rc.none,now⟩
  | _=>fun st w=>∃ ans,0<=ans/\Mid B I L i k xs x 1 ttl 0 (V7 I n lim now cnt x r) ⟨24,0,x.a,Rc.none,now⟩ ans ⟨24,0,x.a,Rc.none,now⟩ st w) ?_ hL ?_ (by omega) (by omega) hst ⟨h,hsh⟩
 ·intro j hj;match j,hj with
  | 0,_=>exact Ok.start ..
  | 1,_=>exact Ok.begun ..
  | 2,_=>exact Ok.mid (wY:=rfl) (hV:=VS) ..
  | 3,_=>exact Ok.mid (wY:=rfl) (hV:=VR) ..
  | 4,_=>exact Ok.mid (wY:=rfl) (hV:=EJ) ..
  | 5,_=>exact Ok.mid (wY:=rfl) (hV:=OE) ..
  | 6,_=>exact Ok.mid (wY:=rfl) (hV:=Iq) ..
  | 7,_=>exact Ok.done (hV:=Iq) ..
 ·intro j w hj hp hpa;match j,hj with
  | 0,_=>
   obtain⟨hp,hne,lO,hs⟩:=hp;exact (J8 _ hp hL hxs hs).mono fun e w' ⟨a,b,c,d⟩=>⟨a,⟨b,hne,lO,c⟩,d⟩
  | 1,_=>exact Jv (htb.past hpa) hn hmk _ hp.1 hL hxs hp.2 rfl hq
  | 2,_=>exact ML _ hp hL hxs (by omega) rfl hk
  | 3,_=>subst hr;exact MK hro _ hp hL hxs (by omega) rfl hk
  | 4,_=>exact YD _ hp hL hxs hlv t1 t2 hrs h0 hcnt
  | 5,_=>exact MM _ hp hL hxs (by omega) rfl hk
  | 6,_=>exact (Ju _ hp hL hxs rfl).mono fun e w' ⟨a,b,c⟩=>⟨a,⟨_,by omega,b⟩,c⟩
end
end Go.Proofs.YtkachcflifhgiaaGreatDoor
namespace Go.Proofs.YtkachcflifhgiaaGreatDoor
open Go Go.RowKit Go.Shelf
variable {Vt:TV}
def Opn.strip (o:Opn):Opn:={ o with nA:=none,nn:=0,nc:=0 }
theorem Yo {w:World}{base k kc:Nat}{A:Option Addr}{xs:List Opn}(h:w.ownsRow base 65 23 (.slice A k kc) k (opC xs)){j:Nat}{o:Opn}(hj:xs[j]?=some o):∃ g,A=some ⟨g,0,none⟩/\g<w.heap.size/\w.rangeAt g (j*23) o.cells:=by
 rcases h.2 with ⟨h1,h0⟩ | ⟨g',cap,cur,h1,h2,h3,h4,h5,h6,h7⟩
 ·have:=h.1;rw[vP] at this;have:=(ak.1 hj).1;omega
 ·injection h1 with e1 _ e3
  subst e1;refine⟨g',rfl,Bk.lt h3,fun i v hv=>?_⟩;have hi:i<23:=by
   have:=(ak.1 hv).1;rwa [Opn.qp] at this
  exact (qj (c:=kc) (n:=k) h (by rw[YI xs j o hj i hi];exact hv)).1
theorem Opn.one (o:Opn):o.cells.toArray.all (·.oneCell')=true:=by simp[Opn.cells,Rs.cells,Value.oneCell']
theorem IB:(Tryz.prog.info? 65).map (·.size)=some 23:=by kernel_rfl
theorem boxed (w:World)(Z cs:Array Value)(T:TypeId):Bk ((w.alloc (.cells Z T)).setRow w.heap.size cs) w.heap.size T cs/\Below w.heap.size w ((w.alloc (.cells Z T)).setRow w.heap.size cs):=
 ⟨EM (Bk.new w T Z),(DN (Bk.new w T Z)).fresh ((ai _ _).alloc (ag _) _) (by simp) (by simp)⟩
theorem K_ {w:World}{B:Nat}{d s k kc:Nat}{A:Option Addr}{steps:Int}{cv:Value}{xs:List Opn}(h:nP w d s cv steps (.slice A k kc))(hx:w.ownsRow B 65 23 (.slice A k kc) k (opC xs))(hl:xs.length=k)(hk:k<=100)(hn:∀ o∈xs,adf w B o) :
  Calls Tryz.prog 19 #[.pointer (some ⟨d,0,none⟩)] w fun e w'=>∃ A' c' ys,e=.returned (.slice A' k c')/\ys.map Opn.strip=xs.map Opn.strip/\w'.ownsRow w.heap.size 65 23 (.slice A' k c') k (opC ys)/\Below w.heap.size w w':=by
 have y3:=h.c3;have HX:=jP hx;have HN:=jP hn;clear h hx hn;go_enter Tryz.func19,Tryz.ntmps19
 go_wp2_with fail
 go_loopw [3,11] (fun vl vi wr=>∃ (j:Nat) (A:Option Addr) (c:Nat) (ys:List Opn),j<=k/\vi=.int .i64 j/\vl=.slice A j c/\ys.map Opn.strip=(xs.take j).map Opn.strip/\wr.ownsRow w.heap.size 65 23 (.slice A j c) j (opC ys)/\Below w.heap.size w wr) (fun _ vi _=>k-(intOf vi).toNat)
 case atStart=>exact⟨0,none,0,[],by omega,rfl,rfl,rfl,aH _ _ _ _,ai _ _⟩
 case round=>
  obtain⟨j,A2,c2,ys,hj,rfl,rfl,hs,ho,hb⟩:=hrel;have HO:=jP ho;have HW:=jP hb;have HS:=jP hs;have hsw:=hb.size;clear ho hb hs;by_cases hlt:j<k
  ·obtain⟨o,hoj⟩:∃ o,xs[j]?=some o:=⟨xs[j],au (by omega)⟩;obtain⟨g,rfl,hgl,hra⟩:=Yo HX.1 hoj;obtain⟨l,hn1,hnm⟩:=HN.1 o (ay hoj);have ahj:wr.rangeAt g (j*23) o.cells:=fun i v hv=>(HW.1.cell (p:=⟨g,j*23+i,none⟩) hgl).trans (hra i v hv);have HR:=jP (((Rd.kX hnm).below HW.1).more hsw);have Vs:=jP ahj;clear hra ahj hnm;have hcs:o.cells.length=23:=Opn.qp o;have hi1:(Tryz.prog.info? 65).map (·.size)=some o.cells.length:=by rw[hcs];exact IB
   have hi2:(Tryz.prog.info? 65).map (·.size)=some o.cells.toArray.size:=by rw[iR,hcs];exact IB
   have hz:∀ v0 v1 v2 v3 v4 v5 v6 v7 v8 v9 v10 v11 v12 v13 v14 v15 v16 v17 v18 v19 v20 v21 v22:Value,(#[v0,v1,v2,v3,v4,v5,v6,v7,v8,v9,v10,v11,v12,v13,v14,v15,v16,v17,v18,v19,v20,v21,v22]:Array Value).size=o.cells.toArray.size:=by intros;simp[hcs]
   have HI1:=jP hi1;have HI2:=jP hi2;have HZ:=jP hz;clear hi1 hi2 hz hcs;go_upto_region 5 with (first
    | (refine wpList_load_mid rfl 65 _ rfl g (j*23) rfl o.cells _ Vs.1 Tryz.underlying65 rfl HI1.1 ?_)
    | (refine wpList_store_row rfl 65 _ _ rfl wr.heap.size o.cells.toArray rfl rfl 65 _ (Bk.new wr _ _) HI2.1 (HZ.1 _ _ _ _ _ _ _ _ _ _ _ _ _ _ _ _ _ _ _ _ _ _ _) (Opn.one o) ?_))
   obtain⟨hbx,hbw⟩:=boxed wr #[.int .i64 0,.int .i64 0,.int .i64 0,.slice none 0 0,.int .i64 0,.int .i64 0,.string ⟨#[]⟩,.int .i64 0,.int .i64 0,.string ⟨#[]⟩,.int .i64 0,.int .i64 0,.int .i64 0,.int .i64 0,.int .i64 0,.int .i64 0,.int .i64 0,.string ⟨#[]⟩,.int .i64 0,.int .i64 0,.string ⟨#[]⟩,.int .i64 0,.int .i64 0] o.cells.toArray 65;generalize hw2:(wr.alloc (.cells #[.int .i64 0,.int .i64 0,.int .i64 0,.slice none 0 0,.int .i64 0,.int .i64 0,.string ⟨#[]⟩,.int .i64 0,.int .i64 0,.string ⟨#[]⟩,.int .i64 0,.int .i64 0,.int .i64 0,.int .i64 0,.int .i64 0,.int .i64 0,.int .i64 0,.string ⟨#[]⟩,.int .i64 0,.int .i64 0,.string ⟨#[]⟩,.int .i64 0,.int .i64 0] 65)).setRow wr.heap.size o.cells.toArray=w2 at *;have x3:w2.cell? ⟨wr.heap.size,3,none⟩=some (.slice o.nA o.nn o.nc):=hbx.cell 3;have f3:=hbx.frozen 3;have qy:=jP hbx;have oJ:=jP hbw;have hsz:=hbw.size;have hwl:=hbx.lt;have HR2:=jP ((HR.1.below hbw).more hsz);clear hbx hbw hw2;go_upto_region 6 with (at_builtin;refine Rf (by rfl) _ _ rfl (base:=w2.heap.size) (xs:=[]) rfl (aH _ _ _ _) rfl HR2.1 (by omega) (by simp) ?_;intro A3 c3 w3 ho3 hg3 _;have hb3:Below w2.heap.size w2 w3:=(ai _ _).grown hg3 (ag _) (fun k hk=>by cases hk);have x4:=(hb3.cell (p:=⟨wr.heap.size,3,none⟩) hwl).trans x3;have f4:=(hb3.frozen (p:=⟨wr.heap.size,3,none⟩) hwl).trans f3)
   have HB4:=jP (show Bk (w3.setCell ⟨wr.heap.size,3,none⟩ (.slice A3 o.nn c3)) wr.heap.size 65 (Opn.cells { o with nA:=A3,nc:=c3 }).toArray from Bk.kM (qy.1.below hb3 hwl) 3 _);have hb4:Below wr.heap.size wr (w3.setCell ⟨wr.heap.size,3,none⟩ (.slice A3 o.nn c3)):=(oJ.1.trans (hb3.mono hsz)).setCell (p:=⟨wr.heap.size,3,none⟩) (ag _) _;have lC:=jP (kD HO.1 hb4);have sK:=jP (HW.1.trans (hb4.mono hsw));generalize hw4:w3.setCell ⟨wr.heap.size,3,none⟩ (.slice A3 o.nn c3)=w4 at *;have hs4:=hb4.size;clear hw4 hb4 hb3 hg3 ho3 x3 x4 f3 f4 HR HR2 Vs;have hi4:(Tryz.prog.info? 65).map (·.size)=some (Opn.cells { o with nA:=A3,nc:=c3 }).toArray.size:=by rw[iR,Opn.qp];exact IB
   have HI4:=jP hi4;clear hi4;generalize ho':({ o with nA:=A3,nc:=c3 }:Opn)=o' at *;have zK:=jP (show (ys++[o']).map Opn.strip=(xs.take (j+1)).map Opn.strip by
    rw[gq,HS.1,List.take_add_one,hoj,gq,<-ho'];rfl)
   clear ho';have nS:=jP (show Bk w4 wr.heap.size 65 #[.int .i64 o'.cl,.int .i64 o'.op,.int .i64 o'.ttl,.slice o'.nA o'.nn o'.nc,.int .i64 o'.bad.err,.int .i64 o'.bad.at_,.string o'.bad.nm,.int .i64 o'.bad.rc.st,.int .i64 o'.bad.rc.ow,.string o'.bad.rc.nm,.int .i64 o'.bad.rc.dl,.int .i64 o'.bad.tk,.int .i64 o'.begun,.int .i64 o'.dec,.int .i64 o'.ans,.int .i64 o'.kP.err,.int .i64 o'.kP.at_,.string o'.kP.nm,.int .i64 o'.kP.rc.st,.int .i64 o'.kP.rc.ow,.string o'.kP.rc.nm,.int .i64 o'.kP.rc.dl,.int .i64 o'.kP.tk] from HB4.1);have kY:=jP (show (Tryz.prog.info? 65).map (·.size)=some (#[.int .i64 o'.cl,.int .i64 o'.op,.int .i64 o'.ttl,.slice o'.nA o'.nn o'.nc,.int .i64 o'.bad.err,.int .i64 o'.bad.at_,.string o'.bad.nm,.int .i64 o'.bad.rc.st,.int .i64 o'.bad.rc.ow,.string o'.bad.rc.nm,.int .i64 o'.bad.rc.dl,.int .i64 o'.bad.tk,.int .i64 o'.begun,.int .i64 o'.dec,.int .i64 o'.ans,.int .i64 o'.kP.err,.int .i64 o'.kP.at_,.string o'.kP.nm,.int .i64 o'.kP.rc.st,.int .i64 o'.kP.rc.ow,.string o'.kP.rc.nm,.int .i64 o'.kP.rc.dl,.int .i64 o'.kP.tk]:Array Value).size from HI4.1);go_wp2_with (first
    | (refine wpList_load_row rfl 65 _ rfl wr.heap.size rfl 65 #[.int .i64 o'.cl,.int .i64 o'.op,.int .i64 o'.ttl,.slice o'.nA o'.nn o'.nc,.int .i64 o'.bad.err,.int .i64 o'.bad.at_,.string o'.bad.nm,.int .i64 o'.bad.rc.st,.int .i64 o'.bad.rc.ow,.string o'.bad.rc.nm,.int .i64 o'.bad.rc.dl,.int .i64 o'.bad.tk,.int .i64 o'.begun,.int .i64 o'.dec,.int .i64 o'.ans,.int .i64 o'.kP.err,.int .i64 o'.kP.at_,.string o'.kP.nm,.int .i64 o'.kP.rc.st,.int .i64 o'.kP.rc.ow,.string o'.kP.rc.nm,.int .i64 o'.kP.rc.dl,.int .i64 o'.kP.tk] (0,0) _ nS.1 Tryz.underlying65 rfl kY.1 ?_)
    | (at_builtin;refine Vj (by rfl) _ _ rfl (base:=w.heap.size) (xs:=ys) rfl (lC.1.alloc _) rfl (Jr (z:=w4.heap.size) rfl o') (by omega) (by simp;omega) ?_;intro A5 c5 w5 oK hg5 _))
   have mY:=jP (show Below w.heap.size w w5 from (sK.1.alloc sK.1.size _).grown hg5 (by simp;have:=sK.1.size;omega) (fun q h=>(lC.1.lt q h).1));have lI:=jP oK;clear oK hg5;go_roundw
   case rel=>exact⟨j+1,A5,c5,ys++[o'],by omega,by go_num,rfl,zK.1,lI.1,mY.1⟩
   case measure=>simp[intOf];omega
  ·obtain rfl:j=k:=by omega
   go_wp2_with fail
   go_ret
   exact⟨A2,c2,ys,rfl,by rw[HS.1,aP (by omega)],HO.1,HW.1⟩
end Go.Proofs.YtkachcflifhgiaaGreatDoor
namespace Go.Proofs.YtkachcflifhgiaaGreatDoor
open Go Go.RowKit Go.Shelf
variable {Vt:TV}
def rsT:List TypeId:=[113,30,115,168,156,65]
def VG (L:List Cl):Prop:=∀ (j j':Nat) (k k':Cl),j≠j'->L[j]?=some k->L[j']?=some k'->k'.c≠k.c/\k'.b≠k.b/\k'.ch≠k.ch/\k'.m≠k.m
structure Rest (B:Nat)(I:nY)(L:List Cl)(xs:List Opn)(st:Int)(w:World):Prop where
 row:w.ownsRow B 113 1 (.slice (some ⟨I.cw,0,none⟩) L.length I.nc) L.length (qI L)
 idle:∀ (j:Nat) (k':Cl),L[j]?=some k'->Idle w k' (j:Int)
 Be:VG L
 nm:∀ o∈xs,adf w I.hi o
 ne:I.ls≠I.ss
 lo:∀ g∈[I.d,I.s,I.cw,I.lk,I.ls,I.lo,I.st,I.ss,I.sr],vI I B g
 lc:∀ k'∈L,vI I B k'.c/\vI I B k'.b/\vI I B k'.ch/\vI I B k'.m
 sz:I.hi<=w.heap.size
 hh:∀ g,I.hi<=g->vI I B g
 ops:∃ oA oc,nP w I.d I.s (.slice (some ⟨I.cw,0,none⟩) L.length I.nc) st (.slice oA xs.length oc)/\w.ownsRow I.hi 65 23 (.slice oA xs.length oc) xs.length (opC xs)
section
variable {w w':World} {B:Nat} {I:nY} {L:List Cl} {i:Nat} {k:Cl} {xs:List Opn} {K:List Nat} {ts:List TypeId} {n lim now cnt:Int}
variable {st st':Int} {x:Nm} {op ttl ph:Int} {p p':Rs} {ans:Int} {kP:Rs} {r:lZ} {r0:Rc} {V:World->Value->Prop} {t:ByteArray}
theorem Rest.fx (h:Rest B I L xs st w)(hk:L[i]?=some k):Fx w B I L i k xs:=
 ⟨h.row,hk,fun j k' _ hj=>h.idle j k' hj,fun j k' hj hk'=>h.Be i j k k' (Ne.symm hj) hk hk',h.nm,h.ne,h.lo,h.lc,h.sz,h.hh⟩
theorem Rest.mv (h:Rest B I L xs st w)(ho:jR K w w')(hK:lg w K ts)(hts:∀ t∈ts,t∉rsT)(hd:LY I st st' w w'):Rest B I L xs st' w':=by
 have no:∀ {t:TypeId},t∈rsT->t∉ts:=fun ht h=>hts _ h ht;refine⟨rY h.row ho hK (no (by decide)),?_,h.Be,?_,h.ne,h.lo,h.lc,aK h.sz ho.size,h.hh,?_⟩
 ·intro j k' hj;obtain⟨o,tx,op,ttl,nv,at_,rv,p,a,b,c⟩:=h.idle j k' hj;exact⟨o,tx,op,ttl,nv,at_,rv,p,a.jS ho (hK.no a.bk (no (by decide))),b.jS ho (hK.Gw b (no (by decide))) (hK.IC b),c.jS ho (hK.no c.bk (no (by decide)))⟩
 ·intro o hm;obtain⟨l,h4,h5⟩:=h.nm o hm;exact⟨l,h4,rY h5 ho hK (no (by decide))⟩
 ·obtain⟨oA,oc,a,b⟩:=h.ops;exact⟨oA,oc,hd _ _ a,rY b ho hK (no (by decide))⟩
theorem Rest.below (h:Rest B I L xs st w)(hb:Below w.heap.size w w'):Rest B I L xs st w':=
 h.mv (jR.below (S:=[]) hb (ag _)) lg.nil (ts:=[]) (by simp) (fun cv ov hd=>hd.jS (jR.below (S:=[]) hb (ag _)) (by simp))
theorem qw.below (h:qw I n lim now cnt x r w)(hb:Below w.heap.size w w'):qw I n lim now cnt x r w':=
 h.ty (jR.below (S:=[]) hb (ag _)) lg.nil (ts:=[]) (by simp)
theorem Mid.rest (h:Mid B I L i k xs x op ttl 0 V p ans kP st w)(hd:VG L):∃ o,o.ans=ans/\o.kP=kP/\Rest B I L (xs++[o]) st w:=by
 obtain⟨oA,oc,q,cq,A',c',rv,tx,begun,dec,a,b,c,d,e⟩:=h.ex;refine⟨⟨(i:Int),op,ttl,A',1,c',Rs.zero,begun,dec,ans,kP⟩,rfl,rfl,⟨a.fx.row,?_,hd,?_,a.fx.ne,a.fx.lo,a.fx.lc,a.fx.sz,a.fx.hh,oA,oc,?_,?_⟩⟩
 ·intro j k' hj;by_cases hi:j=i
  ·subst hi;rw[a.fx.me] at hj;injection hj with hj
   subst hj;exact⟨_,_,_,_,_,_,_,_,a.c,a.b,c⟩
  ·exact a.fx.jS j k' hi hj
 ·intro o ho;rcases aO.1 ho with h1 | h1
  ·exact a.fx.nm o h1
  ·rw[aB.1 h1];exact⟨[x],ag _,b⟩
 ·rw[aA];exact a.d
 ·rw[aA];exact a.r
theorem Ji (h:Rest B I L xs st w)(hk:L[i]?=some k)(hL:L.length<=64)(hsh:qw I n lim now cnt x r w)(ht:t.size<=4096)(hst:0<=st/\st<=1000000) :
  Calls Tryz.prog 15 #[.pointer (some ⟨I.d,0,none⟩),.agg #[.int .i64 1,.int .i64 (i:Int),.int .i64 0,.string t]] w fun e w'=>e=.returned (.int .i64 0)/\Start B I L i k xs t (st+1) w'/\qw I n lim now cnt x r w'/\Past I B w w':=by
 have hf:=h.fx hk;obtain⟨oA,oc,hd,hr⟩:=h.ops;obtain⟨o,tx,op,ttl,nv,at_,rv,p,a,b,c⟩:=h.idle i k hk;obtain⟨cc,hcb⟩:=kV h.row I.cw (by simp[jT]);refine (afW t hd hf.lt hL hf.cell a b ht hst (Bk.ne hcb hd.bk (by decide)) hcb.lt (hcb.tq b)).mono ?_;rintro e w' ⟨rfl,hd',hb',ho⟩;have hno:∀ (g:Nat) (t:TypeId) (cs:Array Value),Bk w g t cs->t≠109->g∉[I.d,k.ch]:=by
  intro g t cs hg h1;simp only[aN,aZ,dw,not_or];exact⟨Bk.ne hg hd.bk h1,hg.tq b⟩
 refine⟨rfl,⟨?_,oA,oc,o,tx,op,ttl,nv,at_,rv,p,hd',a.jS ho (hno _ _ _ a.bk (by decide)),hb',c.jS ho (hno _ _ _ c.bk (by decide)),oD hr ho (fun g cs hg=>hno g _ cs hg (by decide))⟩,?_,Past.of ho ?_⟩
 ·refine hf.abx ho (fun g cs hg=>hno g _ cs hg (by decide)) ?_ (fun g cs hg=>hno g _ cs hg (by decide));intro j k' hj hk';obtain⟨o',tx',op',rO,nv',at',rv',p',a',b',c'⟩:=hf.jS j k' hj hk';obtain⟨d1,d2,d3,d4⟩:=hf.Be j k' hj hk';refine⟨hno _ _ _ a'.bk (by decide),hno _ _ _ b'.1 (by decide),?_,hno _ _ _ c'.bk (by decide)⟩;simp only[aN,aZ,dw,not_or];exact⟨(hd.bk.tq b').symm,d3⟩
 ·obtain⟨ne,lO,hs⟩:=hsh;refine⟨ne,lO,hs.no ho (ts:=[109]) (fun g t cs hg h1=>hno g t cs hg (by simpa using h1)) (by decide)⟩
 ·simp only[aN,aZ,dw];rintro g (rfl | rfl)
  ·exact h.lo _ (by simp)
  ·exact hf.UG.2.2.1
end
end Go.Proofs.YtkachcflifhgiaaGreatDoor
namespace Go.Proofs.YtkachcflifhgiaaGreatDoor
open Go Go.RowKit Go.Shelf
variable {Vt:TV}
section
variable {w w':World} {B:Nat} {I:nY} {L:List Cl} {i:Nat} {k:Cl} {xs:List Opn} {K:List Nat} {ts:List TypeId} {n lim now cnt:Int}
variable {st st':Int} {x:Nm} {op ttl ph:Int} {p p':Rs} {ans:Int} {kP:Rs} {r:lZ} {r0:Rc} {V:World->Value->Prop} {t:ByteArray}
theorem IA (h:Rest B I L xs st w)(hxs:xs.length<=100) :
  Calls Tryz.prog 19 #[.pointer (some ⟨I.d,0,none⟩)] w fun e w'=>∃ A' c' ys,e=.returned (.slice A' xs.length c')/\ys.map Opn.strip=xs.map Opn.strip/\w'.ownsRow w.heap.size 65 23 (.slice A' xs.length c') xs.length (opC ys)/\Below w.heap.size w w':=by
 obtain⟨oA,oc,hd,hr⟩:=h.ops;exact K_ hd hr rfl hxs h.nm
def Does (B:Nat)(I:nY)(L:List Cl)(i:Nat)(k:Cl)(xs:List Opn)(t:ByteArray)(n lim now cnt cnt':Int)(x:Nm)(r r':lZ)(kP:Rs)(m:Int)(st:Int):Prop:=
 ∀ most w,8<most->Start B I L i k xs t st w->qw I n lim now cnt x r w->Bi I B k.V w->Calls Tryz.prog 17 #[.pointer (some ⟨I.d,0,none⟩),.int .i64 most] w fun e w'=>e=.returned (.int .i64 m) /\
  (∃ o,0<=o.ans/\o.kP=kP/\Rest B I L (xs++[o]) (st+m) w')/\qw I n lim now cnt' x r' w'/\Past I B w w'
theorem Je {xs ys:List Opn}{o:Opn}(h:ys.map Opn.strip=(xs++[o]).map Opn.strip):∃ zs o',ys=zs++[o']/\zs.length=xs.length/\o'.ans=o.ans/\o'.kP=o.kP:=by
 rw[gq,List.map_eq_append_iff] at h;obtain⟨zs,l2,rfl,h1,h2⟩:=h;rw[List.map_singleton,List.map_eq_singleton_iff] at h2;obtain⟨o',rfl,h3⟩:=h2;refine⟨zs,o',rfl,?_,?_,?_⟩
 ·have:=aV List.length h1;simpa using this
 ·simpa[Opn.strip] using aV Opn.ans h3
 ·simpa[Opn.strip] using aV Opn.kP h3
def nY.wk (I:nY)(l:List (Nat×Array Value)):nY:={ I with kp:=l }
theorem Rest.wk (h:Rest B I L xs st w)(l:List (Nat×Array Value)):Rest B (I.wk l) L xs st w:=⟨h.row,h.idle,h.Be,h.nm,h.ne,h.lo,h.lc,h.sz,h.hh,h.ops⟩
theorem Rest.alg {l:List (Nat×Array Value)}(h:Rest B (I.wk l) L xs st w):Rest B I L xs st w:=⟨h.row,h.idle,h.Be,h.nm,h.ne,h.lo,h.lc,h.sz,h.hh,h.ops⟩
theorem qw.wk {l:List (Nat×Array Value)}(h:qw I n lim now cnt x r w)(hl:∀ a∈l,Bk w a.1 43 a.2):qw (I.wk l) n lim now cnt x r w:=by
 obtain⟨ne,lO,s,lk,t,kp⟩:=h;exact⟨ne,lO,s,lk,t,hl⟩
theorem qw.resp {g:Nat}{cs:Array Value}(h:qw (I.wk ((g,cs)::I.kp)) n lim now cnt x r w)(ho:jR [g] w w')(hne:∀ a∈I.kp,a.1≠g):qw I n lim now cnt x r w':=by
 obtain⟨ne,lO,hs,hl,ht,hk⟩:=h;have hg:=hk _ (eF ..);have hK:lg w [g] [43]:=lg.one hg;exact⟨ne,lO,hs.jS ho (hK.no hs.bk (by decide)),hl.ty ho hK (by decide) (by decide) (by decide),ht.ty ho hK (by decide) (by decide) (by decide),fun a ha=>(hk a (aU _ ha)).jS ho (by simpa using hne a ha)⟩
theorem qw.kp (h:qw I n lim now cnt x r w):∀ a∈I.kp,Bk w a.1 43 a.2:=by
 obtain⟨ne,lO,s,lk,t,kp⟩:=h;exact kp
theorem one_any {nm:List UInt8}{cnt' m:Int}{r':lZ}{A:Option Addr}{c j:Nat}(h:Rest B I L xs st w)(hk:L[i]?=some k)(hL:L.length<=64)(hxs:xs.length<100)(hsh:qw I n lim now cnt x r w)(hst:0<=st/\st<=999990)
  (htk:Bi I B k.V w) (hns:Rd w w.heap.size 1 A 1 (strs [str nm])) (h0:1<=j) (h7:j<=7) (ht:Rq.ttl (j:Int) ttl=true) (hm:nm.length<=4096) (hl:(Rq.qV (j:Int) ttl [nm]).length<=4096) (htab:Tb w)
  (hD:∀ l,Does B (I.wk l) L i k xs (str (Rq.qV (j:Int) ttl [nm])) n lim now cnt cnt' x r r' kP m (st+1)) :
  Calls Tryz.prog 11 #[.pointer (some ⟨I.d,0,none⟩),.int .i64 (i:Int),.int .i64 (j:Int),.int .i64 ttl,.slice A 1 c] w fun e w'=>e=.returned (.tuple #[.agg kP.arr,.bool true]) /\
   (∃ o,Rest B I L (xs++[o]) (st+1+m) w')/\qw I n lim now cnt' x r' w'/\Past I B w w':=by
 have HR:=jP h;have Vo:=jP hsh;have HD:=jP hD;have Ry:=jP htab;have wZ:=jP htk;have hal:Below w.heap.size w (w.alloc (.cells #[.int .i64 0,.int .i64 0,.string ⟨#[]⟩,.int .i64 0,.int .i64 0,.string ⟨#[]⟩,.int .i64 0,.int .i64 0] 43)):=(ai _ _).alloc (ag _) _;have xO:=jP hal;have HF:=jP (fun w1 (hb:Below w.heap.size w w1)=>Xh j ttl A 1 c [nm] w1 ((hns.below hb).more hb.size) h0 h7 ht (by omega) (by simp;omega) (by omega) (htab.past hb));have hfv:A_ (j:Int) ttl [nm]=.tuple #[.string (str (Rq.qV (j:Int) ttl [nm])),.int .i64 0]:=by unfold A_;rw[ah (by simp),ah (by omega)]
 rw[hfv] at HF;have hts:(str (Rq.qV (j:Int) ttl [nm])).size<=4096:=by rw[lT];exact hl
 have HT:=jP hts;clear h hsh hD htab htk hns hfv hts;generalize str (Rq.qV (j:Int) ttl [nm])=t at *;have hbk:=Bk.new w 43 #[.int .i64 0,.int .i64 0,.string ⟨#[]⟩,.int .i64 0,.int .i64 0,.string ⟨#[]⟩,.int .i64 0,.int .i64 0];have pV:=jP hbk;clear hbk hal;go_enter Tryz.func11,Tryz.ntmps11
 go_upto_region 1 with (fail)
 generalize hw1:w.alloc (.cells #[.int .i64 0,.int .i64 0,.string ⟨#[]⟩,.int .i64 0,.int .i64 0,.string ⟨#[]⟩,.int .i64 0,.int .i64 0] 43)=w1 at *;clear hw1;go_wp2_with fail
 refine (HF.1 w1 xO.1).mono ?_;rintro e w2 ⟨rfl,hb2⟩;have HA2:=jP (xO.1.trans (hb2.mono xO.1.size));have xe:=jP (pV.1.below hb2 pV.1.lt);have HR2:=jP (HR.1.below HA2.1);have HS2:=jP (Vo.1.below HA2.1);clear hb2 HF Ry pV;go_wp2_with fail
 refine (IA HR2.1 (by omega)).mono ?_;rintro e w3 ⟨A3,c3,ys3,rfl,-,-,hb3⟩;have CG:=jP (HA2.1.trans (hb3.mono HA2.1.size));have zh:=jP (xe.1.below hb3 xe.1.lt);have HR3:=jP ((HR2.1.below hb3).wk ((w.heap.size,#[.int .i64 0,.int .i64 0,.string ⟨#[]⟩,.int .i64 0,.int .i64 0,.string ⟨#[]⟩,.int .i64 0,.int .i64 0])::I.kp));have mg:=jP ((HS2.1.below hb3).wk (l:=(w.heap.size,#[.int .i64 0,.int .i64 0,.string ⟨#[]⟩,.int .i64 0,.int .i64 0,.string ⟨#[]⟩,.int .i64 0,.int .i64 0])::I.kp) (by
  intro a ha;rcases aN.1 ha with rfl | ha
  ·exact zh.1
  ·exact (HS2.1.below hb3).kp a ha))
 clear hb3 HA2 xe HR2 HS2;go_wp2_with fail
 refine (Ji HR3.1 hk hL mg.1 HT.1 ⟨hst.1,by omega⟩).mono ?_;rintro e w4 ⟨rfl,hs4,ahh,hp4⟩;have zK:=jP hs4;have aiw:=jP ahh;have xE:=jP ((Past.of_below (B:=B) CG.1).trans hp4);clear hs4 ahh hp4 HR3 mg CG zh;go_wp2_with fail
 refine (HD.1 _ 9999 w4 (by omega) zK.1 aiw.1 (wZ.1.past xE.1)).mono ?_;rintro e w5 ⟨rfl,⟨o,ho1,ho2,zD⟩,ahg,hp5⟩;have v_:=jP zD;have aiv:=jP ahg;have Kw:=jP (xE.1.trans hp5);clear zD ahg hp5 zK aiw xE HD;go_wp2_with fail
 refine (IA v_.1 (by rw[aA];simp;omega)).mono ?_;rintro e w6 ⟨A6,c6,ys,rfl,ahd,Oj,hb6⟩;obtain⟨zs,o',rfl,hzl,ha',hr'⟩:=Je ahd;rw[aA] at Oj;obtain⟨g6,rfl,Fb,Zu⟩:=BR Oj hzl;have Kv:=jP (Kw.1.trans (Past.of_below hb6));have Cf:=jP (v_.1.below hb6);have o6:=jP (aiv.1.below hb6);have VF:=jP Zu;have zJ:=jP Oj;clear ahd Oj hb6 Zu Kw v_ aiv;have q14:=VF.1 14 _ rfl;have hlen:(xs++[o]).length=xs.length+1:=by simp
 rw[hlen];have Vs:=jP (show w6.rangeAt g6 (xs.length*23+15) kP.cells from by
  intro j v hv;rw[jg];refine VF.1 (15+j) v ?_;have hj:j<8:=by
   have:=(ak.1 hv).1;simpa[Rs.cells] using this
  rw[<-ho2,<-hr'] at hv;have:o'.cells=([.int .i64 o'.cl,.int .i64 o'.op,.int .i64 o'.ttl,.slice o'.nA o'.nn o'.nc]++o'.bad.cells++[.int .i64 o'.begun,.int .i64 o'.dec,.int .i64 o'.ans])++o'.kP.cells:=rfl;rw[this,aT (by simp[Rs.cells])];simpa[Rs.cells] using hv)
 have hans:¬o'.ans<0:=by omega
 generalize hkk:xs.length=kk at *;have hk0:¬((kk+1:Nat):Int)<=(kk:Int):=by omega
 have hk1:IntKind.i64.wrap (((kk+1:Nat):Int)-1)=(kk:Int):=by rw[show ((kk+1:Nat):Int)-1=(kk:Int) by omega];exact aW _ (by omega)
 have hk2:(0:Int)<=(kk:Int):=by omega
 have hk3:(kk:Int)<((kk+1:Nat):Int):=by omega
 have hk4:(kk:Int).toNat=kk:=by omega
 go_upto_region 9 with (fail)
 have hk6:=o6.1.kp _ (eF ..);have CB:=jP (show Bk w6 w.heap.size 43 #[.int .i64 0,.int .i64 0,.string ⟨#[]⟩,.int .i64 0,.int .i64 0,.string ⟨#[]⟩,.int .i64 0,.int .i64 0] from hk6);have HI1:=jP (show (Tryz.prog.info? 43).map (·.size)=some kP.cells.length by kernel_rfl);have HI2:=jP (show (Tryz.prog.info? 43).map (·.size)=some kP.cells.toArray.size by kernel_rfl);have nT:=jP (show kP.cells.toArray.all (·.oneCell')=true by simp[Rs.cells,Value.oneCell']);have HZ:=jP (show (#[.int .i64 0,.int .i64 0,.string ⟨#[]⟩,.int .i64 0,.int .i64 0,.string ⟨#[]⟩,.int .i64 0,.int .i64 0]:Array Value).size=kP.cells.toArray.size by rfl);clear hk6 q14;go_wp2_with (first
  | (refine wpList_load_mid rfl 43 _ rfl g6 (kk*23+15) rfl kP.cells _ Vs.1 iT rfl HI1.1 ?_)
  | (refine wpList_store_row rfl 43 _ _ rfl w.heap.size kP.cells.toArray rfl rfl 43 _ CB.1 HI2.1 HZ.1 nT.1 ?_))
 have hset:=EM (cs:=kP.cells.toArray) CB.1;have hoth:=DN (cs:=kP.cells.toArray) CB.1;generalize w6.setRow w.heap.size kP.cells.toArray=w7 at *;have hb0:I.hi<=w.heap.size:=HR.1.sz;exact aS (mZ (P:=Tryz.prog) (p:=10) (u:=11) (ty:=43) rfl _ _ w.heap.size _ rfl hset iT HI2.1) rfl ⟨rfl,⟨o,Cf.1.alg.mv hoth (lg.one CB.1) (by decide) (fun cv ov hd=>hd.jS hoth (by simpa using Bk.ne hd.bk CB.1 (by decide)))⟩,o6.1.resp hoth (fun a ha=>bY (Vo.1.kp a ha).lt),Kv.1.trans (Past.of hoth (by intro g hg;rw[aB.1 hg];exact HR.1.hh _ hb0))⟩
end
end Go.Proofs.YtkachcflifhgiaaGreatDoor
namespace Go.Proofs.YtkachcflifhgiaaGreatDoor
open Go Go.RowKit Go.Shelf
variable {Vt:TV}
theorem ab6:(Tryz.prog.info? 113).map (fun i=>(i.zero,i.size,i.bytes))=some (some (.pointer none),1,8):=by kernel_rfl
theorem Z5 (L:List Cl):∀ u∈qI L,u.oneCell'=true:=by
 intro u hu;unfold qI at hu;obtain⟨x,_,rfl⟩:=eG.1 hu;rfl
theorem agh {w:World}{ops:Array Oper}{rest:List Oper}{o:Oper}{a:Act}{Q:Exit->Act->World->Prop}(hw:Region.wanted o (yielded ops a.tmps)=true)(s x:Operand)
  (ho:o.op=.call { callee:=.builtin .append,args:=#[s,x],argTypes:=#[107,107] })
  {base:Nat} {v:Value} {n:Nat} {xs:List Cl} (hs:a.eval s=v) (hown:w.ownsRow base 113 1 v n (qI xs))
  {B:Nat} {A:Option Addr} {m c:Nat} {ys:List Cl} (hx:a.eval x=.slice A m c) (hr:Rd w B 1 A m (qI ys))
  (hlen:n+m<=100000000) (hbase:base<=w.heap.size)
  (h:∀ A' c' w',w'.ownsRow base 113 1 (.slice A' (n+m) c') (n+m) (qI (xs++ys))->w.grownBy w' v.ownBlock ->
   ((Value.slice A' (n+m) c').ownBlock=v.ownBlock\/(Value.slice A' (n+m) c').ownBlock=some w.heap.size)->wpList Tryz.prog ops Q rest (a.put o.dst (.slice A' (n+m) c')) w') :
  wpList Tryz.prog ops Q (o::rest) a w:=by
 obtain⟨i0,hi,hz0,hz1,hz2⟩:=dR ab6;refine rV hw s x _ ho base _ i0 _ 1 8 Tryz.underlying107 hi hz0 hz1 hz2 rfl (by decide) v n (qI xs) hs hown B A m c (qI ys) hx hr (Z5 ys)
  (by unfold maxLen;omega) (by omega) hbase ?_
 intro v' w' h2 h3 h4;obtain⟨A',c',rfl⟩:=o7 h2;rw[show qI xs++qI ys=qI (xs++ys) by simp[qI]] at h2;exact h A' c' w' h2 h3 h4
theorem Wi {w:World}{z:Nat}(hz:w.heap.size=z)(k:Cl):Rd (w.alloc (.cells #[.pointer (some ⟨k.c,0,none⟩)] 113)) (z+1) 1 (some ⟨z,0,none⟩) 1 (qI [k]):=by
 subst hz;have hb:=Bk.new w 113 #[.pointer (some ⟨k.c,0,none⟩)];refine⟨rfl,fun _=>⟨w.heap.size,0,rfl,by omega,fun j u hu=>?_⟩⟩;rw[bf,hb.cell];simpa[qI] using hu
def adx (I:nY)(A:Option Addr)(L:List Cl)(lo hi:Nat):Prop:=∀ g,(g∈jT A\/g∈[I.d,I.s,I.lk,I.ls,I.lo,I.st,I.ss,I.sr]\/∃ k2∈L,g=k2.c\/g=k2.b\/g=k2.ch\/g=k2.m)->g<lo\/hi<=g
structure zA (W:World)(V:TV)(I:nY)(n cap:Int)(A:Option Addr)(j c:Nat)(L:List Cl)(w:World):Prop where
 d:nP w I.d I.s (.slice A j c) 0 (.slice none 0 0)
 row:w.ownsRow W.heap.size 113 1 (.slice A j c) j (qI L)
 len:L.length=j
 idle:∀ (j:Nat) (k':Cl),L[j]?=some k'->Idle w k' (j:Int)
 Be:VG L
 lc:∀ k'∈L,W.heap.size<=k'.c/\W.heap.size<=k'.b/\W.heap.size<=k'.ch/\W.heap.size<=k'.m
 s:mJ w I.s n cap 0 0 I.lk I.st
 l:nI w I.lk I.ls I.lo 2048 (mM 2048) (z_ 2048) 0
 t:lW w I.st I.ss I.sr 16 (mM 16) (yA 16) 0
 tb:Bk w W.heap.size 26 (kK V)
 tc:j_ w W.heap.size V I.T
 tk:∀ k'∈L,∃ lo hi,Bh w lo hi k'.V I.T/\W.heap.size<=hi/\adx I A L lo hi
 bel:Below W.heap.size W w
section
variable {W w w':World} {V:TV} {I:nY} {n cap:Int} {A:Option Addr} {j c:Nat} {L:List Cl} {K:List Nat} {ts:List TypeId}
theorem Idle.ty {k:Cl}{i:Int}(h:Idle w k i)(ho:jR K w w')(hK:lg w K ts)(t1:115∉ts)(t2:168∉ts)(t3:156∉ts):Idle w' k i:=by
 obtain⟨o,tx,op,ttl,nv,at_,rv,p,a,b,c⟩:=h;exact⟨o,tx,op,ttl,nv,at_,rv,p,a.jS ho (hK.no a.bk t1),b.jS ho (hK.Gw b t2) (hK.IC b),c.jS ho (hK.no c.bk t3)⟩
theorem zA.below (h:zA W V I n cap A j c L w)(hb:Below w.heap.size w w'):zA W V I n cap A j c L w':=by
 have ho:jR [] w w':=jR.below hb (ag _);exact⟨h.d.jS ho (by simp),rY h.row ho lg.nil (ts:=[]) (by simp),h.len,fun j k' hj=>(h.idle j k' hj).ty ho lg.nil (ts:=[]) (by simp) (by simp) (by simp),h.Be,h.lc,h.s.jS ho (by simp),h.l.ty ho lg.nil (ts:=[]) (by simp) (by simp) (by simp),h.t.ty ho lg.nil (ts:=[]) (by simp) (by simp) (by simp),h.tb.jS ho (by simp),h.tc.below (hb.mono h.bel.size),fun k' hk'=>(h.tk k' hk').elim fun lo h1=>h1.elim fun hi h2=>⟨lo,hi,h2.1.step (Ag.below hb h2.1.1) (aK h2.1.1 hb.size),h2.2⟩,h.bel.trans (hb.mono h.bel.size)⟩
theorem Idle.lt {k:Cl}{i:Int}(h:Idle w k i):k.c<w.heap.size/\k.b<w.heap.size/\k.ch<w.heap.size/\k.m<w.heap.size:=by
 obtain⟨o,tx,op,ttl,nv,at_,rv,p,a,b,c⟩:=h;exact⟨a.lt,b.lt.1,b.lt.2.1,c.lt⟩
theorem zA.add {w4:World}{k:Cl}{A4:Option Addr}{c4:Nat}(h:zA W V I n cap A j c L w)(hk:Idle w k (j:Int))(hkf:∀ k'∈L,k'.c≠k.c/\k'.b≠k.b/\k'.ch≠k.ch/\k'.m≠k.m)(hlo:W.heap.size<=k.c/\W.heap.size<=k.b/\W.heap.size<=k.ch/\W.heap.size<=k.m)
  (ho:jR (jT A) w w4) (hbel:Below W.heap.size W w4) (hrow:w4.ownsRow W.heap.size 113 1 (.slice A4 (j+1) c4) (j+1) (qI (L++[k]))) (hd:W.heap.size<=I.d) (hnd:I.d∉jT A)
  (hww:w.heap.size<=w4.heap.size) (htk:∀ k'∈L++[k],∃ lo hi,Bh w lo hi k'.V I.T/\W.heap.size<=hi/\adx I A4 (L++[k]) lo hi/\∀ g∈jT A,g<lo\/hi<=g) (htc:j_ (w4.setCell ⟨I.d,1,none⟩ (.slice A4 (j+1) c4)) W.heap.size V I.T) :
  zA W V I n cap A4 (j+1) c4 (L++[k]) (w4.setCell ⟨I.d,1,none⟩ (.slice A4 (j+1) c4)):=by
 have hK:lg w (jT A) [113]:=fun g hg=>by
  obtain⟨cs,hb⟩:=kV h.row g hg;exact⟨_,cs,hb,by simp⟩
 have hd4:nP w4 I.d I.s (.slice A j c) 0 (.slice none 0 0):=h.d.jS ho (hK.no h.d.bk (by decide));have oK:jR [I.d] w4 (w4.setCell ⟨I.d,1,none⟩ (.slice A4 (j+1) c4)):=(jR.refl [I.d] w4).setCell (p:=⟨I.d,1,none⟩) (.inl (by simp)) _;have hK5:lg w4 [I.d] [109]:=lg.one hd4.bk;have hid:∀ (i:Nat) (k':Cl),Idle w k' (i:Int)->Idle (w4.setCell ⟨I.d,1,none⟩ (.slice A4 (j+1) c4)) k' (i:Int):=fun i k' h'=>
  (h'.ty ho hK (by decide) (by decide) (by decide)).ty oK hK5 (by decide) (by decide) (by decide)
 refine⟨hd4.scv _,rY hrow oK hK5 (by decide),by rw[aA,h.len];rfl,?_,?_,?_,(h.s.jS ho (hK.no h.s.bk (by decide))).jS oK (hK5.no (h.s.jS ho (hK.no h.s.bk (by decide))).bk (by decide)),(h.l.ty ho hK (by decide) (by decide) (by decide)).ty oK hK5 (by decide) (by decide) (by decide),(h.t.ty ho hK (by decide) (by decide) (by decide)).ty oK hK5 (by decide) (by decide) (by decide),(h.tb.jS ho (hK.no h.tb (by decide))).jS oK (hK5.no (h.tb.jS ho (hK.no h.tb (by decide))) (by decide)),htc,?_,hbel.setCell (p:=⟨I.d,1,none⟩) hd _⟩
 ·intro i k' hi;by_cases hlt:i<L.length
  ·rw[bz hlt] at hi;exact hid i k' (h.idle i k' hi)
  ·have hl:=(ak.1 hi).1;rw[aA,iI] at hl;obtain rfl:i=L.length:=by omega
   rw[aT (ag _)] at hi;simp at hi;subst hi;rw[h.len];exact hid j k hk
 ·intro a b x y hab hx hy;by_cases ha:a<L.length
  ·rw[bz ha] at hx;by_cases hb:b<L.length
   ·rw[bz hb] at hy;exact h.Be a b x y hab hx hy
   ·have hl:=(ak.1 hy).1;rw[aA,iI] at hl;obtain rfl:b=L.length:=by omega
    rw[aT (ag _)] at hy;simp at hy;subst hy;obtain⟨d1,d2,d3,d4⟩:=hkf x (ay hx);exact⟨d1.symm,d2.symm,d3.symm,d4.symm⟩
  ·have hl:=(ak.1 hx).1;rw[aA,iI] at hl;obtain rfl:a=L.length:=by omega
   rw[aT (ag _)] at hx;simp at hx;subst hx;have hb:b<L.length:=by
    have hl:=(ak.1 hy).1;rw[aA,iI] at hl;omega
   rw[bz hb] at hy;exact hkf y (ay hy)
 ·intro k' hk';rcases aO.1 hk' with h1 | h1
  ·exact h.lc k' h1
  ·rw[aB.1 h1];exact hlo
 ·intro k' hk';obtain⟨lo,hi,a,b,c',d⟩:=htk k' hk';have h1:I.d<lo\/hi<=I.d:=c' I.d (.inr (.inl (by simp)));refine⟨lo,hi,(a.step (Ag.jS ho a.1 (fun g hg=>(d g hg).symm)) (aK a.1 hww)).step (Ag.setCell _ (p:=⟨I.d,1,none⟩) h1 _) (by rw[gQ];exact aK a.1 hww),b,c'⟩
theorem zA.tks {wr w6:World}{k:Cl}{A4:Option Addr}{lo':Nat}(h:zA W V I n cap A j c L wr)(hb:Below wr.heap.size wr w6)(hseg:Bh w6 lo' k.m k.V I.T)(hlo:wr.heap.size<=lo')(hm:wr.heap.size<=k.m)
  (hc:k.m<=k.c) (hbl:k.b<lo'/\wr.heap.size<=k.b) (hch:k.ch<lo'/\wr.heap.size<=k.ch) (hA:∀ g∈jT A4,g∈jT A\/w6.heap.size<=g) :
  ∀ k'∈L++[k],∃ lo hi,Bh w6 lo hi k'.V I.T/\W.heap.size<=hi/\adx I A4 (L++[k]) lo hi/\∀ g∈jT A,g<lo\/hi<=g:=by
 have hrow:∀ g∈jT A,g<wr.heap.size:=fun g hg=>by
  obtain⟨cs,hb⟩:=kV h.row g hg;exact hb.lt
 have aci:∀ g∈[I.d,I.s,I.lk,I.ls,I.lo,I.st,I.ss,I.sr],g<wr.heap.size:=by
  intro g hg;simp only[aN,aZ,dw] at hg;rcases hg with rfl | rfl | rfl | rfl | rfl | rfl | rfl | rfl
  ·exact h.d.lt
  ·exact h.s.lt
  ·exact h.l.k.lt
  ·exact h.l.s.lt
  ·exact Bk.lt h.l.o
  ·exact h.t.k.lt
  ·exact h.t.s.lt
  ·exact Bk.lt h.t.r
 have hcl:∀ k2∈L,k2.c<wr.heap.size/\k2.b<wr.heap.size/\k2.ch<wr.heap.size/\k2.m<wr.heap.size:=by
  intro k2 hk;obtain⟨i,hi⟩:=gU.1 hk;exact (h.idle i k2 hi).lt
 have hws:=hb.size;intro k' hk';rcases aO.1 hk' with h1 | h1
 ·obtain⟨lo,hi,a,b,c'⟩:=h.tk k' h1;have hhi:=a.1;refine⟨lo,hi,a.step (Ag.below hb hhi) (aK hhi hws),b,fun g hg=>?_,fun g hg=>c' g (.inl hg)⟩;rcases hg with hg | hg | ⟨k2,hk2,hg⟩
  ·rcases hA g hg with h2 | h2
   ·exact c' g (.inl h2)
   ·exact .inr (by omega)
  ·exact c' g (.inr (.inl hg))
  ·rcases aO.1 hk2 with h2 | h2
   ·exact c' g (.inr (.inr ⟨k2,h2,hg⟩))
   ·rw[aB.1 h2] at hg;exact .inr (by omega)
 ·rw[aB.1 h1];have hhi:=hseg.1;refine⟨lo',k.m,hseg,by have:=h.bel.size;omega,fun g hg=>?_,fun g hg=>.inl (by have:=hrow g hg;omega)⟩;rcases hg with hg | hg | ⟨k2,hk2,hg⟩
  ·rcases hA g hg with h2 | h2
   ·exact .inl (by have:=hrow g h2;omega)
   ·exact .inr (by omega)
  ·exact .inl (by have:=aci g hg;omega)
  ·rcases aO.1 hk2 with h2 | h2
   ·have:=hcl k2 h2;exact .inl (by omega)
   ·rw[aB.1 h2] at hg;omega
end
theorem new_any (m cap:Nat)(h1:1<=m)(h2:m<=64)(h3:1<=cap)(h4:cap<=64)(w:World){V:TV}{T:Gm.Tab}{B0:Nat}(htab:j_ w B0 V T)(hB0:B0<=w.heap.size)(hblk:xg w w.heap.size) :
  Calls Tryz.prog 9 #[kF V,.agg #[.int .i64 (m:Int),.int .i64 (cap:Int)]] w fun e w'=>∃ I L,e=.returned (.tuple #[.pointer (some ⟨I.d,0,none⟩),.int .i64 0])/\L.length=m/\I.kp=[]/\I.T=T/\(∀ k∈L,Bi I w.heap.size k.V w') /\
   Rest w.heap.size I L [] 0 w'/\(∀ x,qw I (m:Int) (cap:Int) 0 0 x lZ.z w')/\Below w.heap.size w w':=by
 have Ry:=jP htab;have HB0:=jP hB0;have pV:=jP hblk;clear htab hB0 hblk;have HX:=jP (show Bk ((w.alloc (.cells (kK V) 26)).alloc (.cells #[.int .i64 (m:Int),.int .i64 (cap:Int)] 38)) w.heap.size 26 (kK V) from (Bk.new w _ _).alloc _);have HC:=jP (l_ w (.cells (kK V) 26) 38 #[.int .i64 (m:Int),.int .i64 (cap:Int)]);have HB:=jP (mP w (.cells (kK V) 26) (.cells #[.int .i64 (m:Int),.int .i64 (cap:Int)] 38));go_enter Tryz.func9,Tryz.ntmps9
 go_upto_region 1 with (fail)
 generalize hw0:(w.alloc (.cells (kK V) 26)).alloc (.cells #[.int .i64 (m:Int),.int .i64 (cap:Int)] 38)=w0 at *;clear hw0;obtain⟨x0,x1,x2,x3,x4,x5,x6,x7,x8,x9,x10,x11⟩:=rD HX.1;go_wp2_with fail
 clear x0 x1 x2 x3 x4 x5 x6 x7 x8 x9 x10 x11;have HT0:=jP (Ry.1.below (HB.1.mono HB0.1));refine (PK HT0.1 (aK HB0.1 HB.1.size) 0 (by omega) (by omega)).mono ?_;rintro e w1 ⟨g1,lo1,V1,rfl,-,-,-,-,hb1⟩;have qK:=jP (HX.1.below hb1 HX.1.lt);have BG:=jP (HC.1.below hb1 HC.1.lt);have HB1:=jP (HB.1.trans (hb1.mono HB.1.size));clear hb1 HX HC HB;have y0:=BG.1.cell 0;have y1:=BG.1.cell 1;go_wp2_with fail
 clear y0 y1;refine (Yj (m:Int) (cap:Int) (by omega) (by omega) (by omega) (by omega) _).mono ?_;rintro e w2 ⟨s,lk,ls,lo,st,ss,sr,rfl,hs,hl,ht,hne,hlo,hb2⟩;have lV:=jP (qK.1.below hb2 qK.1.lt);have HC2:=jP (BG.1.below hb2 BG.1.lt);have HB2:=jP (HB1.1.trans (hb2.mono HB1.1.size));have HS2:=jP hs;have HL2:=jP hl;have HT2:=jP ht;have HLO:=jP hlo;have hsz1:=HB1.1.size;clear hb2 qK BG HB1 hs hl ht hlo;have hsz2:=HB2.1.size;go_upto_region 8 with (fail)
 have hal:Below w2.heap.size w2 (w2.alloc (.cells #[.pointer (some ⟨s,0,none⟩),.slice none 0 0,.int .i64 0,.slice none 0 0] 109)):=(ai _ _).alloc (ag _) _;have zL:=jP (show zA w V ⟨w2.heap.size,s,0,0,lk,ls,lo,st,ss,sr,[],T,fun _=>True,0⟩ (m:Int) (cap:Int) none 0 0 [] (w2.alloc (.cells #[.pointer (some ⟨s,0,none⟩),.slice none 0 0,.int .i64 0,.slice none 0 0] 109)) from
  ⟨Bk.new w2 _ _,aH _ _ _ _,rfl,fun j k' h=>by simp at h,fun a b x y hab hx hy=>by simp at hx,fun k' h=>by simp at h,mJ.jS HS2.1 (jR.below (S:=[]) hal (ag _)) (by simp),HL2.1.below hal (ag _),HT2.1.below hal (ag _),lV.1.below hal lV.1.lt,(Ry.1.more HB0.1).below (HB2.1.trans (hal.mono hsz2)),fun k' h=>by simp at h,HB2.1.trans (hal.mono hsz2)⟩)
 have Ey:=jP (HC2.1.below hal HC2.1.lt);have hdl:w.heap.size<=w2.heap.size:=hsz2;have ajI:=hsz1;clear hal lV HC2 HB2 HS2 HL2 HT2 hsz1;generalize hw3:w2.alloc (.cells #[.pointer (some ⟨s,0,none⟩),.slice none 0 0,.int .i64 0,.slice none 0 0] 109)=w3 at *;clear hw3;generalize hdd:w2.heap.size=d at *;clear hdd;have y0:=Ey.1.cell 0;go_wp2_with fail
 clear y0;go_loopw [37] (fun vi wr=>∃ (j:Nat) (A:Option Addr) (c:Nat) (L:List Cl),j<=m/\vi=.int .i64 j/\zA w V ⟨d,s,0,0,lk,ls,lo,st,ss,sr,[],T,fun _=>True,0⟩ (m:Int) (cap:Int) A j c L wr) (fun vi _=>m-(intOf vi).toNat)
 case atStart=>exact⟨0,none,0,[],by omega,rfl,zL.1⟩
 case round=>
  obtain⟨j,A,c,L,hj,rfl,hN⟩:=hrel;have HN:=jP hN;clear hN;by_cases hlt:j<m
  ·have alH:(j:Int)<(m:Int):=by omega
   go_wp2_with fail
   refine (aff 8 (by omega) (by omega) _).mono ?_;rintro e w4 ⟨b,ch,rfl,hbox,hb0,hb1,hbb⟩;have w_:=jP (HN.1.below hbb);have I9:=jP hbox;obtain⟨x0,x1,x2,x3,x4,x5,x6,x7,x8,x9,x10,x11⟩:=rD w_.1.tb;have hsr:=HN.1.bel.size;have sK:=jP hbb;clear hbox hbb;go_wp2_with fail
   clear x0 x1 x2 x3 x4 x5 x6 x7 x8 x9 x10 x11;refine (PK w_.1.tc w_.1.bel.size (j:Int) (by omega) (by omega)).mono ?_;rintro e w5 ⟨g,tlo,V5,rfl,hma,hts,htl,hg,hbb⟩;have xG:=jP (w_.1.below hbb);have ajd:=jP (I9.1.jS (jR.below (S:=[]) hbb (ag _)) (by simp) (by simp));have Cm:=jP hma;have ao4:=w_.1.bel.size;have alB:=hbb.size;have yX:=jP hts;have Rx:=jP htl;have uj:=jP (sK.1.trans (hbb.mono sK.1.size));clear hma hbb hts htl;have hal:Below w5.heap.size w5 (w5.alloc (.cells #[.pointer (some ⟨b,0,none⟩),.pointer (some ⟨g,0,none⟩),.int .i64 0] 115)):=(ai _ _).alloc (ag _) _;have acw:jR [] w5 (w5.alloc (.cells #[.pointer (some ⟨b,0,none⟩),.pointer (some ⟨g,0,none⟩),.int .i64 0] 115)):=jR.below hal (ag _);have qx:=jP (xG.1.below hal);have um:=jP (show Idle (w5.alloc (.cells #[.pointer (some ⟨b,0,none⟩),.pointer (some ⟨g,0,none⟩),.int .i64 0] 115)) ⟨w5.heap.size,b,ch,g,V5⟩ (j:Int) from ⟨0,_,_,_,_,_,_,_,Bk.new w5 _ _,ajd.1.jS acw (by simp) (by simp),Cm.1.jS acw (by simp)⟩);have HF6:=jP (show ∀ k'∈L,k'.c≠w5.heap.size/\k'.b≠b/\k'.ch≠ch/\k'.m≠g from by
    intro k' hk';obtain⟨i,hi⟩:=gU.1 hk';obtain⟨l1,l2,l3,l4⟩:=(HN.1.idle i k' hi).lt;obtain⟨m1,m2,m3,m4⟩:=(w_.1.idle i k' hi).lt;omega)
   have lI:=jP (qx.1.row.alloc (.cells #[.pointer (some ⟨w5.heap.size,0,none⟩)] 113));have y1:=xG.1.d.c1;have Lm:(w5.alloc (.cells #[.pointer (some ⟨b,0,none⟩),.pointer (some ⟨g,0,none⟩),.int .i64 0] 115)).heap.size=w5.heap.size+1:=by simp
   have xO:=jP hal;clear xG hal acw;go_wp2_with (at_builtin;refine agh (by rfl) _ _ rfl (base:=w.heap.size) (xs:=L) rfl lI.1 rfl (Wi (z:=w5.heap.size+1) Lm ⟨w5.heap.size,b,ch,g,V5⟩) (by omega) (by simp;omega) ?_)
   intro A4 c4 w7 mG mV hA7;have alq:w.heap.size<=w5.heap.size:=by omega
   generalize hw6:w5.alloc (.cells #[.pointer (some ⟨b,0,none⟩),.pointer (some ⟨g,0,none⟩),.int .i64 0] 115)=w6 at *;clear hw6;have hot:jR (jT A) w6 w7:=((jR.refl (jT A) w6).alloc _).grown mV (fun g e=>by cases A with
    | none=>cases e
    | some a=>simp[Value.ownBlock] at e;exact .inl (by simp[jT,e]))
   have hbl:Below w.heap.size w w7:=(qx.1.bel.alloc qx.1.bel.size _).grown mV (by simp;have:=qx.1.bel.size;omega) (fun q h=>(qx.1.row.lt q h).1);have hd7:nP w7 d s (.slice A j c) 0 (.slice none 0 0):=qx.1.d.jS hot (yL qx.1.row qx.1.d.bk (by decide));have hrA:∀ q∈jT A4,q∈jT A\/w6.heap.size<=q:=by
    intro q hq;cases A4 with
    | none=>simp[jT] at hq
    | some a=>
     simp[jT] at hq;subst hq;rcases hA7 with e | e
     ·cases A with
      | none=>cases e
      | some a'=>
       simp[Value.ownBlock] at e;exact .inl (by simp[jT,e])
     ·simp[Value.ownBlock] at e;exact .inr (by omega)
   have hb4:b<w4.heap.size:=I9.1.lt.1;have hc4:ch<w4.heap.size:=I9.1.lt.2.1;have hg5:g<w5.heap.size:=Cm.1.lt;have htl:=Rx.1;have h45:=sK.1.size;have htk:=zA.tks (w6:=w6) (k:=⟨w5.heap.size,b,ch,g,V5⟩) (A4:=A4) (lo':=tlo) HN.1 (uj.1.trans (xO.1.mono uj.1.size)) (yX.1.step (Ag.below xO.1 yX.1.1) (by have:=yX.1.1;have:=xO.1.size;omega)) (by omega) (by show _<=g;omega) (by show g<=w5.heap.size;omega) (by show b<tlo/\_<=b;omega) (by show ch<tlo/\_<=ch;omega) hrA;have H_:=jP (zA.add qx.1 um.1 HF6.1 ⟨alq,by show w.heap.size<=b;omega,by show w.heap.size<=ch;omega,by show w.heap.size<=g;omega⟩ hot hbl mG hdl (yL qx.1.row qx.1.d.bk (by decide)) hot.size htk ((Ry.1.more HB0.1).below (hbl.setCell (p:=⟨d,1,none⟩) hdl _)));have HD7:=jP hd7;clear hot hbl hd7 mG mV y1 hA7 hrA htk hb4 hc4 hg5 htl h45 yX Rx sK uj xO HN w_ qx I9 ajd Cm um HF6 lI;have f1:=HD7.1.fr 1;have y1:=HD7.1.c1;go_wp2_with fail
   go_roundw
   case rel=>exact⟨j+1,A4,c4,_,by omega,by go_num,H_.1⟩
   case measure=>simp[intOf];omega
  ·obtain rfl:j=m:=by omega
   have alH:¬(j:Int)<(j:Int):=by omega
   go_wp2_with fail
   go_ret2
   obtain⟨cw,rfl⟩:=DT HN.1.row (by omega);have hle:=HN.1.len;have hcw:=own_base HN.1.row;have aci:∀ q∈[d,s,cw,lk,ls,lo,st,ss,sr],w.heap.size<=q:=by
    intro q hq;simp only[aN,aZ,dw] at hq;rcases hq with rfl | rfl | rfl | rfl | rfl | rfl | rfl | rfl | rfl
    ·exact hdl
    all_goals first
     | exact hcw.1
     | exact aK ajI (HLO.1 _ (by simp))
   have hlc:=HN.1.lc;refine⟨⟨d,s,cw,c,lk,ls,lo,st,ss,sr,[],T,fun g=>g∈[d,s,cw,lk,ls,lo,st,ss,sr]\/(∃ k2∈L,g=k2.c\/g=k2.b\/g=k2.ch\/g=k2.m)\/wr.heap.size<=g,wr.heap.size⟩,rfl,L,hle,rfl,rfl,?_,⟨by rw[hle];exact HN.1.row,HN.1.idle,HN.1.Be,by simp,hne,fun q hq=>⟨aci q hq,.inl hq⟩,fun k' hk'=>⟨⟨(hlc k' hk').1,.inr (.inl ⟨k',hk',by simp⟩)⟩,⟨(hlc k' hk').2.1,.inr (.inl ⟨k',hk',by simp⟩)⟩,⟨(hlc k' hk').2.2.1,.inr (.inl ⟨k',hk',by simp⟩)⟩,⟨(hlc k' hk').2.2.2,.inr (.inl ⟨k',hk',by simp⟩)⟩⟩,ag _,fun g hg=>⟨aK HN.1.bel.size hg,.inr (.inr hg)⟩,none,0,by rw[hle];exact HN.1.d,aH _ _ _ _⟩,fun x=>⟨hne,z_ 2048,HN.1.s,HN.1.l,HN.1.t,fun a ha=>by simp at ha⟩,HN.1.bel⟩;intro k' hk';obtain⟨lo',hi',a,b,c'⟩:=HN.1.tk k' hk';refine⟨lo',hi',a,fun g hg=>?_,pV.1.below HN.1.bel,b⟩;rcases hg with hg | hg | hg
   ·simp only[aN,aZ,dw] at hg;rcases hg with rfl | rfl | rfl | hg
    ·exact c' _ (.inr (.inl (by simp)))
    ·exact c' _ (.inr (.inl (by simp)))
    ·exact c' _ (.inl (by simp[jT]))
    ·exact c' _ (.inr (.inl (by simp only[aN,aZ,dw];exact .inr (.inr hg))))
   ·exact c' _ (.inr (.inr hg))
   ·exact .inr (aK a.1 hg)
end Go.Proofs.YtkachcflifhgiaaGreatDoor
namespace Go.Proofs.YtkachcflifhgiaaGreatDoor
open Go Go.RowKit Go.Shelf
variable {Vt:TV}
section
variable {w w':World} {B:Nat} {I:nY} {L:List Cl} {i:Nat} {k:Cl} {xs:List Opn} {n lim now cnt:Int}
variable {st:Int} {x:Nm} {ttl:Int} {r:lZ} {r0:Rc} {t:ByteArray} {nm:List UInt8}
theorem Fj {k0:Nat}{gr:Int}(hd:VG L)(hL:L.length<=64)(hxs:xs.length<=100)(hq:Rq.parse (lst t)=⟨1,ttl,[nm],0⟩)(hro:r.ok)(hU:r.U<=11)(hn:(str nm).size<=1000000)(hmk:Gm.make I.T [str nm]=([(x,k0)],Rs.fine))(hk:x.k.size<=1000000)(ha0:0<x.a.size)(ha1:x.a.size<=63)(hst:0<=st/\st<=1000000)
  (hr:r.get x=r0) (hlv:r0.live now=false) (t1:1<=ttl) (t2:now+ttl<=1073741824) (hgr:1-r0.st=gr) (hcap:(gr=1/\cnt<lim)\/gr=0) (hrs:r0.st=0\/r0.st=1) (h0:0<=now) (hcnt:0<=cnt/\cnt<=1000) :
  Does B I L i k xs t n lim now cnt (cnt+gr) x r (r.put x ⟨1,(i:Int),x.a,now+ttl⟩) ⟨0,-1,ByteArray.empty,Rc.none,now⟩ 8 st:=by
 intro most w hm hs hsh htb;refine (S_ hs hsh hL hxs hq htb hro hU hn hmk hk ha0 ha1 hm hst hr hlv t1 t2 hgr hcap hrs h0 hcnt).mono ?_;rintro e w' ⟨a,⟨ans,h1,h2⟩,h3⟩;obtain⟨o,o1,o2,o3⟩:=h2.rest hd;obtain⟨_,_,_,_,_,_,_,_,_,_,_,_,_,_,hv⟩:=h2.ex;exact⟨a,⟨o,by rw[o1];exact h1,o2,o3⟩,hv,h3⟩
theorem Fp {k0:Nat}(hd:VG L)(hL:L.length<=64)(hxs:xs.length<=100)(hq:Rq.parse (lst t)=⟨1,ttl,[nm],0⟩)(hro:r.ok)(hU:r.U<=11)(hn:(str nm).size<=1000000)(hmk:Gm.make I.T [str nm]=([(x,k0)],Rs.fine))(hk:x.k.size<=1000000)(ha0:0<x.a.size)(ha1:x.a.size<=63)(hst:0<=st/\st<=1000000)
  (hr:r.get x=r0) (hlv:r0.live now=true) (t1:1<=ttl) (t2:now+ttl<=1073741824) (hrs:r0.st=0\/r0.st=1) (h0:0<=now) (hcnt:0<=cnt/\cnt<=1000) :
  Does B I L i k xs t n lim now cnt cnt x r r ⟨24,0,x.a,Rc.none,now⟩ 7 st:=by
 intro most w hm hs hsh htb;refine (Tc hs hsh hL hxs hq htb hro hU hn hmk hk ha0 ha1 hm hst hr hlv t1 t2 hrs h0 hcnt).mono ?_;rintro e w' ⟨a,⟨ans,h1,h2⟩,h3⟩;obtain⟨o,o1,o2,o3⟩:=h2.rest hd;obtain⟨_,_,_,_,_,_,_,_,_,_,_,_,_,_,hv⟩:=h2.ex;exact⟨a,⟨o,by rw[o1];exact h1,o2,o3⟩,hv,h3⟩
end
theorem ag1:Gm.make Gm.t0 [str [65]]=([(⟨str [97],str [97],str [97]⟩,0)],Rs.fine):=rfl
theorem Tm:Rq.parse (lst ⟨#[72,79,76,68,32,53,32,65]⟩)=⟨1,5,[[65]],0⟩:=by kernel_rfl
theorem FH (w:World)(hblk:xg w w.heap.size):Calls Tryz.prog 10 #[] w fun e w'=>e=.returned (.bool true)/\Below w.heap.size w w':=by
 have pV:=jP hblk;clear hblk;go_enter Tryz.func10,Tryz.ntmps10
 go_wp2_with fail
 refine (new_any 1 1 (by omega) (by omega) (by omega) (by omega) w (ali w w.heap.size pV.1) (ag _) pV.1).mono ?_;rintro e w1 ⟨I,L,rfl,hL,hkp,hIT,htk,hrest,hsh,hb1⟩;have HR1:=jP hrest;have Bq:=jP (hsh ⟨str [97],str [97],str [97]⟩);have HB1:=jP hb1;have AY:L.length<=64:=by omega
 obtain⟨k,hk⟩:∃ k,L[0]?=some k:=⟨L[0],au (by omega)⟩;have wZ:=jP (htk k (ay hk));have Vy:=jP (show Gm.make I.T [str [65]]=([(⟨str [97],str [97],str [97]⟩,0)],Rs.fine) by rw[hIT];exact ag1);clear hrest hsh hb1 htk;go_wp2_with fail
 refine (Ji (t:=⟨#[72,79,76,68,32,53,32,65]⟩) HR1.1 hk AY Bq.1 (by decide) (by omega)).mono ?_;rintro e w2 ⟨rfl,hs2,hsh2,hp2⟩;have HS2:=jP hs2;have aix:=jP hsh2;have HP2:=jP ((Past.of_below (B:=w.heap.size) HB1.1).trans hp2);have NT:=jP HR1.1.Be;have Xz:=jP (wZ.1.past hp2);clear hs2 hsh2 hp2 HR1 Bq HB1 wZ;go_wp2_with fail
 refine (Fj (gr:=1) (r0:=Rc.none) (nm:=[65]) NT.1 AY (by simp) Tm lZ.VH (by decide) (by decide) Vy.1 (by decide) (by decide) (by decide) (by omega) (lZ.VI _) (by decide) (by omega) (by omega) rfl (.inl ⟨rfl,by omega⟩) (.inl rfl) (by omega) (by omega) 99 w2 (by omega) HS2.1 aix.1 Xz.1).mono ?_;rintro e w3 ⟨rfl,⟨o,ho1,ho2,hr3⟩,alA,hp3⟩;have HR3:=jP hr3;have Cj:=jP (HP2.1.trans hp3);clear hr3 alA hp3 HS2 aix HP2;go_wp2_with fail
 refine (IA HR3.1 (by simp)).mono ?_;rintro e w4 ⟨A4,c4,ys,rfl,ahe,hrow4,hb4⟩;obtain⟨zs,o',rfl,hzl,ha',hr'⟩:=Je ahe;obtain rfl:zs=[]:=bu hzl;obtain⟨g4,rfl,hg4,Zv⟩:=BR (k:=0) (xs:=[]) hrow4 rfl;have xE:=jP (Cj.1.trans (Past.of_below hb4));have zO:=jP Zv;have hsp:o'.kP=⟨0,-1,ByteArray.empty,Rc.none,0⟩:=by rw[hr',ho2]
 have HC:=jP (show ∀ j v,(Rs.cells ⟨0,-1,ByteArray.empty,Rc.none,0⟩)[j]?=some v->w4.cell? ⟨g4,15+j,none⟩=some v from by
  intro j v hv;have h1:o'.cells[15+j]?=some v:=by
   rw[show o'.cells=([.int .i64 o'.cl,.int .i64 o'.op,.int .i64 o'.ttl,.slice o'.nA o'.nn o'.nc]++o'.bad.cells++[.int .i64 o'.begun,.int .i64 o'.dec,.int .i64 o'.ans])++o'.kP.cells from rfl,aT (by simp[Rs.cells]),hsp];rw[show 15+j-([.int .i64 o'.cl,.int .i64 o'.op,.int .i64 o'.ttl,.slice o'.nA o'.nn o'.nc]++o'.bad.cells++[.int .i64 o'.begun,.int .i64 o'.dec,.int .i64 o'.ans]:List Value).length=j by simp[Rs.cells]];exact hv
  have h2:=zO.1 (15+j) v h1;rwa [Nat.zero_mul,bf] at h2)
 clear ahe hrow4 hb4 Zv Cj HR3;have d0:=HC.1 0 _ rfl;have d1:=HC.1 1 _ rfl;have d2:=HC.1 2 _ rfl;have d3:=HC.1 3 _ rfl;have d4:=HC.1 4 _ rfl;have d5:=HC.1 5 _ rfl;have d6:=HC.1 6 _ rfl;have d7:=HC.1 7 _ rfl;simp only[Nat.reduceAdd,Rc.none] at d0 d1 d2 d3 d4 d5 d6 d7;go_wp2_with fail
 go_ret
 exact⟨rfl,xE.1.below (ag _)⟩
end Go.Proofs.YtkachcflifhgiaaGreatDoor
