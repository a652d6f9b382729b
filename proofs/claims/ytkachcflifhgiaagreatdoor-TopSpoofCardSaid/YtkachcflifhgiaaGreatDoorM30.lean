/-      -/
import Derived.Test.YtkachcflifhgiaaGreatDoorM29
import Derived.Deep.QuietTactic
import Derived.BigQuiet
set_option linter.unusedVariables false
set_option maxRecDepth 100000
set_option maxHeartbeats 16000000
namespace Go.Proofs.YtkachcflifhgiaaGreatDoor
open Go.Proofs.YtkachcflifhgiaaGreatDoor.Rg (Sn)
structure zy (k:Nat)(d:List Gm.Mp)(e:List Int):Prop where
 mQ:yx d
 dec:∀ m∈d,Gm.qN m/\m.f<7680+k
 ea:e.Pairwise (·<·)
 ex:∀ c∈e,∃ m∈d,m.f=c
 uP:d.Pairwise (fun p q=>p.to=q.to->q.f∈e)
 dl:d.length<=k
 el:e.length<=k
theorem zy.start:zy 0 [] []:=⟨List.Pairwise.nil,nofun,List.Pairwise.nil,nofun,List.Pairwise.nil,ag _,ag _⟩
theorem zy.skip {k:Nat}{d:List Gm.Mp}{e:List Int}(h:zy k d e):zy (k+1) d e:=
 ⟨h.mQ,fun m hm=>⟨(h.dec m hm).1,by have:=(h.dec m hm).2;omega⟩,h.ea,h.ex,h.uP,by have:=h.dl;omega,by have:=h.el;omega⟩
theorem zy.add {k:Nat}{d:List Gm.Mp}{e e':List Int}{kJ:List Int}{tw:Bool}(h:zy k d e)(hk:k<5)(hd:Gm.qN ⟨7680+k,kJ⟩)(ht:∀ p∈d,p.to=kJ->tw=true)(he:e'=if tw=true then e++[7680+(k:Int)] else e):zy (k+1) (d++[⟨7680+k,kJ⟩]) e':=by
 have hsub:∀ c∈e,c∈e':=fun c hc=>by
  rw[he];split
  ·exact cZ _ hc
  ·exact hc
 refine⟨?_,fun m hm=>?_,?_,fun c hc=>?_,?_,by rw[aA];have:=h.dl;simp;omega,?_⟩
 ·exact iW.2 ⟨h.mQ,f_ _ _,fun p hp q hq=>by rw[aB.1 hq];exact (h.dec p hp).2⟩
 ·rcases aO.1 hm with h1 | h1
  ·exact⟨(h.dec m h1).1,by have:=(h.dec m h1).2;omega⟩
  ·rw[aB.1 h1];exact⟨hd,by show (7680+(k:Int))<7680+((k+1:Nat):Int);omega⟩
 ·rw[he];split
  ·refine iW.2 ⟨h.ea,f_ _ _,fun c hc q hq=>?_⟩;rw[aB.1 hq];obtain⟨m,hm,rfl⟩:=h.ex c hc;exact (h.dec m hm).2
  ·exact h.ea
 ·rw[he] at hc;have old:∀ c∈e,∃ m∈d++[⟨7680+(k:Int),kJ⟩],m.f=c:=fun c hc=>by
   obtain⟨m,hm,e⟩:=h.ex c hc;exact⟨m,cZ _ hm,e⟩
  split at hc
  ·rcases aO.1 hc with h1 | h1
   ·exact old c h1
   ·exact⟨⟨7680+k,kJ⟩,by simp,(aB.1 h1).symm⟩
  ·exact old c hc
 ·refine iW.2 ⟨h.uP.imp (fun hpq e=>hsub _ (hpq e)),f_ _ _,fun p hp q hq hpq=>?_⟩;rw[aB.1 hq] at hpq ⊢;have:=ht p hp hpq;rw[he,aj this];simp
 ·rw[he];have:=h.el;split<;>simp<;>omega
structure wE (k:Nat)(l:List Sn)(mp:List Gm.Mp):Prop where
 col:Gm.rQ k 0 4 l
 mQ:yx mp
 at_:∀ m∈mp,m.f∈Gm.nR.take k/\⟨m.f,m.f,3⟩∈l/\(m.f=947\/m.f=7684\/m.f=128512)/\∃ j,97<=j/\j<=99/\(m.to=[j]\/m.to=[j,46])
 num:(l.filter (fun s=>s.v==3)).length=mp.length
theorem wE.start:wE 0 [] []:=⟨.nil ..,List.Pairwise.nil,nofun,rfl⟩
theorem ER {k:Nat}{c:Int}(h:c∈Gm.nR.take k):c∈Gm.nR.take (k+1):=by
 rw[dS] at h ⊢;obtain⟨j,hj,e⟩:=h;exact⟨j,by omega,e⟩
theorem wE.plain {k:Nat}{l:List Sn}{mp:List Gm.Mp}(h:wE k l mp){c v:Int}(hc:Gm.nR[k]?=some c)(hv:v=0\/v=1\/v=2\/v=4):wE (k+1) (if 0<v then l++[⟨c,c,v⟩] else l) mp:=by
 by_cases h0:0<v
 ·rw[aj h0];refine⟨h.col.add hc (by omega) (by omega) (by omega),h.mQ,fun m hm=>?_,?_⟩
  ·obtain⟨a,b,r⟩:=h.at_ m hm;exact⟨ER a,cZ _ b,r⟩
  ·rw[iD,aA,h.num];have:((v==3)=false):=by simp;omega
   simp[this]
 ·rw[ah h0];exact⟨h.col.mono,h.mQ,fun m hm=>by obtain⟨a,b,r⟩:=h.at_ m hm;exact⟨ER a,b,r⟩,h.num⟩
theorem wE.map {k:Nat}{l:List Sn}{mp:List Gm.Mp}(h:wE k l mp){c j:Int}{kJ:List Int}(hc:Gm.nR[k]?=some c)(hs:c=947\/c=7684\/c=128512)(hj:97<=j/\j<=99)(ht:kJ=[j]\/kJ=[j,46]):wE (k+1) (l++[⟨c,c,3⟩]) (mp++[⟨c,kJ⟩]):=by
 refine⟨h.col.add hc (by omega) (by omega) (by omega),?_,fun m hm=>?_,?_⟩
 ·refine iW.2 ⟨h.mQ,f_ _ _,fun p hp q hq=>?_⟩;rw[aB.1 hq];exact Gm.Uu hc (h.at_ p hp).1
 ·rcases aO.1 hm with h1 | h1
  ·obtain⟨a,b,r⟩:=h.at_ m h1;exact⟨ER a,cZ _ b,r⟩
  ·rw[aB.1 h1];obtain⟨g1,g2⟩:=ak.1 hc;exact⟨by rw[dS];exact⟨k,by omega,g2⟩,by simp,hs,j,hj.1,hj.2,ht⟩
 ·rw[iD,aA,aA,h.num];rfl
theorem wE.len {k:Nat}{l:List Sn}{mp:List Gm.Mp}(h:wE k l mp):mp.length<=3:=by
 have hn:∀ (mp:List Gm.Mp),yx mp->(∀ m∈mp,m.f=947\/m.f=7684\/m.f=128512)->mp.length<=3:=by
  intro mp ha hm;match mp,ha,hm with
  | [],_,_=>simp
  | [_],_,_=>simp
  | [_,_],_,_=>simp
  | [_,_,_],_,_=>simp
  | a::b::c::d::r,ha,hm=>
   have h1:=iF.1 ha;have h2:=iF.1 h1.2;have h3:=iF.1 h2.2;have e1:=h1.1 b (by simp);have e2:=h2.1 c (by simp);have e3:=h3.1 d (by simp);have ma:=hm a (by simp);have mb:=hm b (by simp);have mc:=hm c (by simp);have md:=hm d (by simp);omega
 exact hn mp h.mQ (fun m hm=>(h.at_ m hm).2.2.1)
theorem Gm.rQ.val {k:Nat}{lo hi:Int}{l:List Sn}(h:Gm.rQ k lo hi l){c v:Int}(hs:⟨c,c,v⟩∈l):Gm.val l c=v:=by
 have key:∀ (l:List Sn) (a:Int),Rg.Asc a l->(∀ s∈l,s.f=s.t)->⟨c,c,v⟩∈l->Gm.val l c=v:=by
  intro l;induction l with
  | nil=>intro a _ _ h;cases h
  | cons s r ih=>
   intro a ha hp hm;unfold Gm.val Rg.val;by_cases hcov:s.f<=c/\c<=s.t
   ·rw[jw (by simp[Rg.Ht,hcov.1,hcov.2])];rcases aN.1 hm with e | e
    ·rw[<-e];rfl
    ·exfalso;have hgt:∀ (r:List Sn) (b:Int),Rg.Asc b r->∀ q∈r,b<q.f:=by
      intro r;induction r with
      | nil=>intro b _ q hq;cases hq
      | cons q r ih2=>
       intro b hb z hz;rcases aN.1 hz with rfl | hz
       ·exact hb.1
       ·have h1:=hb.1;have h2:=hb.2.1;have h3:=ih2 _ hb.2.2.2 z hz;omega
     have:=hgt r _ ha.2.2.2 _ e;simp only at this;omega
   ·rw[gz (by simp only[Rg.Ht];simpa using hcov)];rcases aN.1 hm with e | e
    ·exfalso;apply hcov;rw[<-e];exact⟨iZ _,iZ _⟩
    ·exact ih _ ha.2.2.2 (fun q hq=>hp q (aU _ hq)) e
 exact key l _ h.mQ (fun s hs=>(h.pt s hs).1) hs
structure zo (k:Nat)(I:List Sn)(p:List Gm.Mp):Prop where
 sub:∀ m∈p,m∈Gm.uS.take k
 mQ:yx p
 ok:∀ m∈p,(Gm.val I m.f==1)=false/\∀ q,m.to.getLast?=some q->(Gm.val I q==1)=false
 len:p.length<=k
theorem zo.start (I:List Sn):zo 0 I []:=⟨nofun,List.Pairwise.nil,nofun,ag _⟩
theorem Ph {k:Nat}{m:Gm.Mp}(h:m∈Gm.uS.take k):m∈Gm.uS.take (k+1):=by
 rw[dS] at h ⊢;obtain⟨j,hj,e⟩:=h;exact⟨j,by omega,e⟩
theorem zo.skip {k:Nat}{I:List Sn}{p:List Gm.Mp}(h:zo k I p):zo (k+1) I p:=⟨fun m hm=>Ph (h.sub m hm),h.mQ,h.ok,by have:=h.len;omega⟩
theorem zo.add {k:Nat}{I:List Sn}{p:List Gm.Mp}(h:zo k I p){m:Gm.Mp}(hm:Gm.uS[k]?=some m)(h1:(Gm.val I m.f==1)=false)(h2:∀ q,m.to.getLast?=some q->(Gm.val I q==1)=false):zo (k+1) I (p++[m]):=by
 obtain⟨g1,g2⟩:=ak.1 hm;refine⟨fun q hq=>?_,?_,fun q hq=>?_,by rw[aA];have:=h.len;simp;omega⟩
 ·rcases aO.1 hq with e | e
  ·exact Ph (h.sub q e)
  ·rw[aB.1 e,dS];exact⟨k,by omega,g2⟩
 ·refine iW.2 ⟨h.mQ,f_ _ _,fun a ha b hb=>?_⟩;rw[aB.1 hb,<-g2];have:=h.sub a ha;rw[dS] at this;obtain⟨j,hj,e⟩:=this;rw[<-e];have hpa:Gm.uS.Pairwise (fun a b=>a.f<b.f):=by decide
  exact eX.1 hpa j k (by omega) g1 (by omega)
 ·rcases aO.1 hq with e | e
  ·exact h.ok q e
  ·rw[aB.1 e];exact⟨h1,h2⟩
theorem UZ {c0 c1 c2 c3 c4 l c6:List Sn}{mp d p ext:List Gm.Mp}{e st:List Int}(hT:C_ 28 st (⟨c0,c1,c2,c3,c4,[],c6,[],[],[],[],[]⟩:Gm.Tab))(hD:zy 5 d e)(hM:wE 28 l mp)(hP:zo 5 c6 p)(hE:ext=[]\/ext=[⟨12539,[7,8]⟩]) :
  Gm.Good ⟨c0,c1,c2,c3,c4,l,c6,ext,mp,d,e,p⟩:=by
 refine⟨hT.cat.col (by omega),hT.cls.col (by omega),hT.ku.col (by omega),hT.jX.col (by omega),hT.scr.col (by omega),hM.col.col (by omega),hT.jW.col (by omega),hE,hM.mQ,hM.len,fun m hm=>?_,hM.num,hD.mQ,fun m hm=>(hD.dec m hm).1,hD.ea,hD.ex,hD.uP,hP.mQ,hP.len,fun m hm=>?_⟩
 ·obtain⟨a,b,r1,r2⟩:=hM.at_ m hm;have hp:=jF a;have hr:=Gm.xX hp;refine⟨hp,?_,r2⟩;unfold Gm.jU Gm.pick;rw[ah hr.2.1,hr.1,ah (by simp)];exact hM.col.val b
 ·exact⟨jF (hP.sub m hm),(hP.ok m hm).1,(hP.ok m hm).2⟩
end Go.Proofs.YtkachcflifhgiaaGreatDoor
namespace Go.Proofs.YtkachcflifhgiaaGreatDoor
open Go Go.RowKit
theorem abd {xs ys:List Int}(h:xs.length≠ys.length):decide (xs=ys)=false:=by
 rw[bW];rintro rfl;exact h rfl
theorem aeP {xs ys:List Int}{k:Nat}(h:xs[k]?≠ys[k]?):decide (xs=ys)=false:=by
 rw[bW];rintro rfl;exact h rfl
theorem abb {xs ys:List Int}(hl:xs.length=ys.length)(h:∀ j,j<xs.length->xs[j]?=ys[j]?):decide (xs=ys)=true:=by
 rw[decide_eq_true_iff];apply List.ext_getElem?;intro j;by_cases hj:j<xs.length
 ·exact h j hj
 ·rw[dJ (by omega),dJ (by omega)]
theorem abe (A A':Option Addr)(c c':Nat)(xs ys:List Int)(B:Nat)(w:World)(hx:Rd w B 1 A xs.length (ints xs))(hy:Rd w B 1 A' ys.length (ints ys))
  (mx:xs.length<=maxLen) (my:ys.length<=maxLen) :
  Calls Tryz.prog 71 #[.slice A xs.length c,.slice A' ys.length c'] w (aic (decide (xs=ys)) w):=by
 unfold maxLen at mx my;by_cases hl:xs.length=ys.length
 ·have HL:=jP hl;rw[<-hl] at hy my ⊢;clear hl;generalize hn:xs.length=n at *;have HN:=jP hn;clear hn;have hb:((n:Int) != (n:Int))=false:=by simp
  go_enter Tryz.func71,Tryz.ntmps71
  go_wp2
  go_loopw [13] (fun i wr=>∃ k:Nat,k<=n/\i=.int .i64 k/\(∀ j,j<k->xs[j]?=ys[j]?)/\∃ m,wr=w.drewN m) (fun i _=>n-(intOf i).toNat)
  case atStart=>exact⟨0,by omega,rfl,fun j hj=>absurd hj (by omega),0,rfl⟩
  case round=>
   obtain⟨k,hk,rfl,hpre,m,rfl⟩:=hrel;have HP:=jP hpre;clear hpre;by_cases hlt:k<n
   ·obtain⟨b,off,u,rfl,_,hu,hcu⟩:=jZ hx hlt;obtain⟨b',off',v,rfl,_,hv,hcv⟩:=jZ hy hlt;have HU:=jP hu;have HV:=jP hv;clear hu hv hx hy;by_cases huv:u=v
    ·have hne:(u != v)=false:=by simp[huv]
     have HE:=jP huv;clear huv;go_wp2
     go_quiet (fail)
     go_wp2
     go_roundw
     case rel=>exact⟨k+1,by omega,by go_num,fun j hj=>by
      rcases Nat.lt_succ_iff_lt_or_eq.1 hj with h | h
      ·exact HP.1 j h
      ·subst h;rw[HU.1,HV.1,HE.1],_,rfl⟩
     case measure=>simp[intOf];omega
    ·have hne:(u != v)=true:=by rw[fK];exact huv
     go_wp2
     go_quiet (fail)
     go_wp2
     go_ret
     have:decide (xs=ys)=false:=aeP (k:=k) (by rw[HU.1,HV.1];intro h;exact huv (by injection h));rw[this];exact⟨rfl,_,World.drewN_drewN _ _ _⟩
   ·go_wp2
    go_ret
    have:decide (xs=ys)=true:=abb (HN.1.trans HL.1) (fun j hj=>HP.1 j (by have:=HN.1;omega));rw[this];exact⟨rfl,_,rfl⟩
 ·rw[abd hl];have hb:((xs.length:Int) != (ys.length:Int))=true:=by rw[fK];omega
  go_enter Tryz.func71,Tryz.ntmps71
  go_wp2
  go_ret
  exact⟨rfl,0,rfl⟩
theorem aeQ (A A':Option Addr)(n n' c c':Nat)(xs ys:List Int)(B:Nat)(w:World)(hx:Rd w B 1 A n (ints xs))(hy:Rd w B 1 A' n' (ints ys))
  (mx:n<=maxLen) (my:n'<=maxLen) :
  Calls Tryz.prog 71 #[.slice A n c,.slice A' n' c'] w (aic (decide (xs=ys)) w):=by
 have h1:xs.length=n:=by have:=hx.1;simpa[ints] using this
 have h2:ys.length=n':=by have:=hy.1;simpa[ints] using this
 subst h1;subst h2;exact abe A A' c c' xs ys B w hx hy mx my
end Go.Proofs.YtkachcflifhgiaaGreatDoor
namespace Go.Proofs.YtkachcflifhgiaaGreatDoor
open Go Go.RowKit Go.Shelf
def Gm.Tab.sQ (T:Gm.Tab)(k:Nat)(l:List Gm.Mp):Gm.Tab:=
 match k with
 | 7=>{ T with ext:=l } | 8=>{ T with maps:=l } | 9=>{ T with dec:=l } | 11=>{ T with jY:=l } | _=>T
def Gm.Tab.Iu (T:Gm.Tab)(l:List Int):Gm.Tab:={ T with exc:=l }
theorem aeL (T:Gm.Tab)(l:List Int)(j:Nat)(hj:j≠10)(z:World)(B:Nat)(s:Sl)(h:qJ T j z B s):qJ (T.Iu l) j z B s:=by
 unfold qJ at *;have h1:xI (T.Iu l) j=xI T j:=by unfold xI;split<;>rfl
 have h2:AA (T.Iu l) j=AA T j:=by unfold AA;split<;>rfl
 by_cases e:j<7
 ·rw[aj e] at h ⊢;rw[h1];exact h
 ·rw[ah e,ah hj] at h ⊢;rw[h2];exact h
theorem Gu (T:Gm.Tab)(k:Nat)(hk:k=7\/k=8\/k=9\/k=11)(l:List Gm.Mp)(j:Nat)(hj:j≠k)(hj2:j<12)(z:World)(B:Nat)(s:Sl)(h:qJ T j z B s):qJ (T.sQ k l) j z B s:=by
 have h0:(T.sQ k l).exc=T.exc:=by rcases hk with rfl | rfl | rfl | rfl<;>rfl
 have h1:xI (T.sQ k l) j=xI T j:=by rcases hk with rfl | rfl | rfl | rfl<;>(unfold xI;split<;>rfl)
 unfold qJ at *;by_cases e:j<7
 ·rw[aj e] at h ⊢;rw[h1];exact h
 ·rw[ah e] at h ⊢;by_cases e2:j=10
  ·rw[aj e2] at h ⊢;rw[h0];exact h
  ·rw[ah e2] at h ⊢;have h2:AA (T.sQ k l) j=AA T j:=by
    have:j=7\/j=8\/j=9\/j=11:=by omega
    rcases hk with rfl | rfl | rfl | rfl<;>rcases this with rfl | rfl | rfl | rfl<;>first | rfl | exact absurd rfl hj
   rw[h2];exact h
section
variable {T T':Gm.Tab} {op:List Nat} {gt base n c k:Nat} {A:Option Addr} {S:Nat->Sl} {bs K:List Nat} {x y z:World} {l:List Gm.Mp} {e:List Int}
def B_ (x:World)(ts:List Nat)(A':Option Addr)(kJ:List Int):Prop:=∀ (z:World) (B:Nat),(∀ g∈ts,z.heap[g]?=x.heap[g]?)->(∀ g∈ts,g<B)->Rd z B 1 A' kJ.length (Go.Proofs.YtkachcflifhgiaaGreatDoor.ints kJ)
theorem B_.jS {ts:List Nat}{kJ:List Int}(h:B_ x ts A kJ)(ho:jR K x y)(hl:∀ q∈ts,q<x.heap.size)(hd:∀ q∈ts,q∉K):B_ y ts A kJ:=
 fun z B hz hB=>h z B (fun g hg=>(hz g hg).trans (ho.block g (hl g hg) (hd g hg))) hB
theorem B_.more {ts ts':List Nat}{kJ:List Int}(h:B_ x ts A kJ)(hs:∀ q∈ts,q∈ts'):B_ x ts' A kJ:=
 fun z B hz hB=>h z B (fun g hg=>hz g (hs g hg)) (fun g hg=>hB g (hs g hg))
def Kt (x:World)(cs:List Value)(l:List Gm.Mp)(ts:List Nat):Prop:=∀ (j:Nat) (m:Gm.Mp),l[j]?=some m->cs[j*2]?=some (.int .i64 m.f)/\∃ A' c',cs[j*2+1]?=some (.slice A' m.to.length c')/\B_ x ts A' m.to
structure uK (x:World)(base:Nat)(s:Sl)(l:List Gm.Mp)(ts:List Nat):Prop where
 row:∃ cs,x.ownsRow base 89 2 (.slice s.A s.n s.c) s.n cs/\l.length=s.n/\Kt x cs l ts
 ty:∀ q∈ts,base<=q/\∃ cs,Bk x q 3 cs
theorem uK.nil (x:World)(base:Nat):uK x base Sl.z [] []:=⟨⟨[],aH _ _ _ _,rfl,fun j m h=>by simp at h⟩,by simp⟩
section
variable {s:Sl} {ts:List Nat}
theorem uK.lt (h:uK x base s l ts):∀ q∈ts,q<x.heap.size:=fun q hq=>by obtain⟨_,cs,hb⟩:=h.ty q hq;exact hb.lt
theorem uK.oI (h:uK x base s l ts):∀ q∈jT s.A,base<=q/\q<x.heap.size:=fun q hq=>by
 obtain⟨cs,h1,_⟩:=h.row;cases hA:s.A with
 | none=>rw[hA] at hq;simp[jT] at hq
 | some a=>
  rw[hA] at hq h1;have:=h1.lt a.block (by simp[Value.ownBlock]);simp[jT] at hq;omega
theorem Kt.jS {cs:List Value}(h:Kt x cs l ts)(ho:jR K x y)(hl:∀ q∈ts,q<x.heap.size)(hd:∀ q∈ts,q∉K):Kt y cs l ts:=fun j m hj=>by
 obtain⟨h4,A',c',h5,h6⟩:=h j m hj;exact⟨h4,A',c',h5,h6.jS ho hl hd⟩
theorem uK.jS (h:uK x base s l ts)(ho:jR K x y)(hK:∀ q∈K,q<base):uK y base s l ts:=by
 have hd:∀ q∈ts,q∉K:=fun q hq hm=>by have:=(h.ty q hq).1;have:=hK q hm;omega
 obtain⟨⟨cs,h1,h2,h3⟩,h4⟩:=h;refine⟨⟨cs,uG h1 ho hK,h2,h3.jS ho (fun q hq=>by obtain⟨_,cs,hb⟩:=h4 q hq;exact hb.lt) hd⟩,fun q hq=>?_⟩;obtain⟨h5,cs,hb⟩:=h4 q hq;exact⟨h5,cs,hb.jS ho (hd q hq)⟩
theorem uK.JI (h:uK x base s l ts){tt:List TypeId}(ho:jR K x y)(hK:lg x K tt)(ht:89∉tt)(hd:∀ q∈ts,q∉K):uK y base s l ts:=by
 obtain⟨⟨cs,h1,h2,h3⟩,h4⟩:=h;refine⟨⟨cs,rY h1 ho hK ht,h2,h3.jS ho (fun q hq=>by obtain⟨_,cs,hb⟩:=h4 q hq;exact hb.lt) hd⟩,fun q hq=>?_⟩;obtain⟨h5,cs,hb⟩:=h4 q hq;exact⟨h5,cs,hb.jS ho (hd q hq)⟩
theorem uK.below (h:uK x base s l ts)(hb:Below x.heap.size x y):uK y base s l ts:=h.jS (jR.below (S:=[]) hb (ag _)) (by simp)
theorem uD.YO (h:uK y base s l ts)(hk:k=7\/k=8\/k=9\/k=11)(hl:AA T k=l):uD T k s (jT s.A++ts) y:=by
 obtain⟨cs,h1,h2,h3⟩:=h.row;obtain⟨k1,k2⟩:=JG h1;refine⟨fun q hq=>(aO.1 hq).elim (k1 q) (h.lt q),fun z B hz hB=>?_⟩;unfold qJ;rw[ah (by omega),ah (by omega),hl];refine⟨h2,fun hn=>?_⟩;have hr:=k2 z B (fun g hg=>hz g (cZ _ hg)) (fun g hg=>hB g (cZ _ hg));obtain⟨b,off,hA,hb,hc⟩:=hr.2 (by have:=h1.1;omega);refine⟨b,off,hA,hb,fun j m hj=>?_⟩;obtain⟨h4,A',c',h5,h6⟩:=h3 j m hj;exact⟨hc _ _ h4,A',c',hc _ _ h5,h6 z B (fun g hg=>hz g (dZ _ hg)) (fun g hg=>hB g (dZ _ hg))⟩
theorem XX {A3:Option Addr}{c3:Nat}{kJ:List Int}(h:x.ownsRow base 3 1 (.slice A3 kJ.length c3) kJ.length (Go.Proofs.YtkachcflifhgiaaGreatDoor.ints kJ)):B_ x (jT A3) A3 kJ/\∀ q∈jT A3,base<=q/\∃ cs,Bk x q 3 cs:=by
 obtain⟨h1,h2⟩:=JG h;refine⟨h2,fun q hq=>⟨?_,kV h q hq⟩⟩;cases A3 with
 | none=>simp[jT] at hq
 | some a=>
  have:=h.lt a.block (by simp[Value.ownBlock]);simp[jT] at hq;omega
theorem uK.snoc {A2 A3:Option Addr}{c2 c3:Nat}{m:Gm.Mp}{cs:List Value}{t3:List Nat}(h:uK x base s l ts)(h1:x.ownsRow base 89 2 (.slice s.A s.n s.c) s.n cs)(h2:l.length=s.n)(h3:Kt x cs l ts)
  (h4:B_ x t3 A3 m.to) (h6:∀ q∈t3,base<=q/\∃ cs,Bk x q 3 cs) (hg:x.grownBy y (Value.slice s.A s.n s.c).ownBlock) (h5:y.ownsRow base 89 2 (.slice A2 (s.n+1) c2) (s.n+1) (cs++[.int .i64 m.f,.slice A3 m.to.length c3])) :
  uK y base ⟨A2,s.n+1,c2⟩ (l++[m]) (t3++ts):=by
 have hcl:cs.length=s.n*2:=h1.1;have hot:jR (jT s.A) x y:=(jR.refl (jT s.A) x).grown hg (fun q e=>by
  cases hA:s.A with
  | none=>rw[hA] at e;cases e
  | some a=>rw[hA] at e;simp[Value.ownBlock] at e;exact .inl (by simp[jT,e]))
 have hty:∀ q∈t3++ts,base<=q/\∃ cs,Bk x q 3 cs:=fun q hq=>(aO.1 hq).elim (h6 q) (h.ty q);have hd:∀ q∈t3++ts,q∉jT s.A:=fun q hq hm=>by
  obtain⟨_,c5,hb5⟩:=hty q hq;obtain⟨c6,hb6⟩:=kV h1 q hm;exact Bk.ne hb5 hb6 (by decide) rfl
 refine⟨⟨_,h5,by simp[h2],fun j q hj=>?_⟩,fun q hq=>?_⟩
 ·by_cases hjn:j<s.n
  ·rw[bz (by omega)] at hj;obtain⟨k1,A',c',k2,k3⟩:=h3 j q hj;exact⟨by rw[bz (by omega)];exact k1,A',c',by rw[bz (by omega)];exact k2,
    (k3.jS hot h.lt (fun q hq=>hd q (dZ _ hq))).more (fun q hq=>dZ _ hq)⟩
  ·have hjl:=(ak.1 hj).1;simp[h2] at hjl;obtain rfl:j=s.n:=by omega
   rw[aT (by omega),h2,gY] at hj;simp at hj;subst hj;exact⟨by rw[aT (by omega),hcl];simp,A3,c3,by rw[aT (by omega),hcl];simp,
    (h4.jS hot (fun q hq=>by obtain⟨_,cs,hb⟩:=h6 q hq;exact hb.lt) (fun q hq=>hd q (cZ _ hq))).more (fun q hq=>cZ _ hq)⟩
 ·obtain⟨h7,cs,hb⟩:=hty q hq;exact⟨h7,cs,hb.jS hot (hd q hq)⟩
end
theorem uD.ints (h:y.ownsRow base 3 1 (.slice A n c) n (Go.Proofs.YtkachcflifhgiaaGreatDoor.ints e))(hl:T.exc=e):uD T 10 ⟨A,n,c⟩ (jT A) y:=by
 obtain⟨h1,h2⟩:=JG h;refine⟨h1,fun z B hz hB=>?_⟩;unfold qJ;rw[ah (by omega),aj rfl,hl];exact h2 z B hz hB
theorem oC.shut (h:oC (k::op) gt S T bs y){ou:List Nat}(hT:∀ j,j<12->j≠k->∀ (z:World) (B:Nat),qJ T j z B (S j)->qJ T' j z B (S j))(hk:uD T' k (S k) ou y)(hg:gt∉ou):oC op gt S T' (bs++ou) y:=by
 have hlt:∀ q∈bs++ou,q<y.heap.size:=fun q hq=>(aO.1 hq).elim (h.lt q) (hk.1 q);refine⟨h.bx,fun i hi hp=>?_,hlt,fun hq=>(aO.1 hq).elim h.no hg⟩;by_cases e:i=k
 ·subst e;exact hk.more (fun q hq=>dZ _ hq) hlt
 ·exact ((h.kn i hi (fun hm=>(aN.1 hm).elim e hp)).same (hT i hi e)).more (fun q hq=>cZ _ hq) hlt
theorem oC.open_ (h:oC op gt S T bs y)(k:Nat):oC (k::op) gt S T bs y:=⟨h.bx,fun i hi hp=>h.kn i hi (fun hm=>hp (aU _ hm)),h.lt,h.no⟩
theorem oC.write (h:oC op gt S T bs y)(hk:k∈op)(hk2:k<12)(s:Sl):oC op gt (nZ S k s) T bs (y.setCell ⟨gt,k,none⟩ (.slice s.A s.n s.c)):=by
 have hs:jR [gt] y (y.setCell ⟨gt,k,none⟩ (.slice s.A s.n s.c)):=(jR.refl [gt] y).setCell (p:=⟨gt,k,none⟩) (.inl (by simp)) _;refine⟨?_,fun i hi hp=>?_,fun q hq=>aG (h.lt q hq) hs.size,h.no⟩
 ·rw[<-KJ S k hk2 s];exact h.bx.kM k _
 ·have:nZ S k s i=S i:=by unfold nZ;rw[ah (fun e=>hp (by rw[e];exact hk))]
  rw[this];exact (h.kn i hi hp).jS hs (fun q hq hm=>h.no (by rw[<-aB.1 hm];exact hq))
structure Mc (op:List Nat)(k:Nat)(K:List Nat)(x:World)(g gt:Nat)(T:Gm.Tab)(bs:List Nat)(S:Nat->Sl)(l:List Gm.Mp)(ts:List Nat)(y:World):Prop where
 src:nC y g
 tb:oC op gt S T bs y
 hk:k∈op/\k<12
 mp:uK y x.heap.size (S k) l ts
 ot:jR K x y
 kg:g∈K
 kt:gt∈K
 kl:∀ q∈K,q<x.heap.size
 kb:∀ q∈K,q∉bs
 nb:∀ q∈jT (S k).A,q∉bs
 lt:g<gt
section
variable {g:Nat} {ts:List Nat}
theorem Mc.ne (h:Mc op k K x g gt T bs S l ts y):g≠gt:=by
 obtain⟨cs,hb⟩:=h.src.bk;exact Bk.ne hb h.tb.bx (by decide)
theorem Mc.turn (h:Mc op k K x g gt T bs S l ts y)(hs:nC z g)(ho:jR [g] y z):Mc op k K x g gt T bs S l ts z:=
 ⟨hs,h.tb.jS ho (fun q hq hm=>h.kb g h.kg (by rw[<-aB.1 hm];exact hq)) (by have:=h.ne;simp;omega),h.hk,h.mp.jS ho (fun q hq=>by rw[aB.1 hq];exact h.kl g h.kg),
  h.ot.trans (ho.more (fun q hq=>by rw[aB.1 hq];exact h.kg)),h.kg,h.kt,h.kl,h.kb,h.nb,h.lt⟩
theorem Mc.below (h:Mc op k K x g gt T bs S l ts y)(hb:Below y.heap.size y z):Mc op k K x g gt T bs S l ts z:=
 ⟨h.src.below hb,h.tb.below hb,h.hk,h.mp.below hb,h.ot.trans (jR.below hb (ag _)),h.kg,h.kt,h.kl,h.kb,h.nb,h.lt⟩
theorem Mc.other {K':List Nat}(h:Mc op k K x g gt T bs S l ts y)(ho:jR K' y z)(hs:∀ q∈K',q∈K)(h1:∀ q∈K',g<q)(h2:gt∉K'):Mc op k K x g gt T bs S l ts z:=
 ⟨h.src.jS ho (fun hm=>by have:=h1 g hm;omega) (fun q hq=>by have:=h1 q hq;omega),h.tb.jS ho (fun q hq hm=>h.kb q (hs q hm) hq) h2,h.hk,h.mp.jS ho (fun q hq=>h.kl q (hs q hq)),h.ot.trans (ho.more hs),h.kg,h.kt,h.kl,h.kb,h.nb,h.lt⟩
theorem Mc.col {S':Nat->Sl}{bs':List Nat}(h:Mc op k K x g gt T bs S l ts y)(ht:oC op gt S' T' bs' z)(hbs:∀ q∈bs',q∈bs\/y.heap.size<=q)(ho:jR [gt] y z)(hS:S' k=S k):Mc op k K x g gt T' bs' S' l ts z:=by
 have hsz:=h.ot.size;have hgt:=h.lt;refine⟨h.src.jS ho (by simp;omega) (by simp;omega),ht,h.hk,by rw[hS];exact h.mp.jS ho (fun q hq=>by rw[aB.1 hq];exact h.kl gt h.kt),h.ot.trans (ho.more (fun q hq=>by rw[aB.1 hq];exact h.kt)),h.kg,h.kt,h.kl,fun q hq hm=>?_,fun q hq hm=>?_,hgt⟩
 ·rcases hbs q hm with e | e
  ·exact h.kb q hq e
  ·have:=h.kl q hq;omega
 ·rw[hS] at hq;rcases hbs q hm with e | e
  ·exact h.nb q hq e
  ·have:=h.mp.oI q hq;omega
theorem Mc.put {A2 A3:Option Addr}{c2 c3:Nat}{m:Gm.Mp}{cs:List Value}{t3:List Nat}(h:Mc op k K x g gt T bs S l ts y)(h1:y.ownsRow x.heap.size 89 2 (.slice (S k).A (S k).n (S k).c) (S k).n cs)(h2:l.length=(S k).n)(h3:Kt y cs l ts)
  (h4:B_ y t3 A3 m.to) (h6:∀ q∈t3,x.heap.size<=q/\∃ cs,Bk y q 3 cs) (hg:y.grownBy z (Value.slice (S k).A (S k).n (S k).c).ownBlock) (h5:z.ownsRow x.heap.size 89 2 (.slice A2 ((S k).n+1) c2) ((S k).n+1) (cs++[.int .i64 m.f,.slice A3 m.to.length c3]))
  (hA:(Value.slice A2 ((S k).n+1) c2).ownBlock=(Value.slice (S k).A (S k).n (S k).c).ownBlock\/(Value.slice A2 ((S k).n+1) c2).ownBlock=some y.heap.size) :
  Mc op k K x g gt T bs (nZ S k ⟨A2,(S k).n+1,c2⟩) (l++[m]) (t3++ts) (z.setCell ⟨gt,k,none⟩ (.slice A2 ((S k).n+1) c2)):=by
 have hot:jR (jT (S k).A) y z:=(jR.refl (jT (S k).A) y).grown hg (fun q e=>by
  cases hA:(S k).A with
  | none=>rw[hA] at e;cases e
  | some a=>rw[hA] at e;simp[Value.ownBlock] at e;exact .inl (by simp[jT,e]))
 have hr:=h.mp.oI;have hgl:=h.kl g h.kg;have htl:=h.kl gt h.kt;have hst:jR [gt] z (z.setCell ⟨gt,k,none⟩ (.slice A2 ((S k).n+1) c2)):=(jR.refl [gt] z).setCell (p:=⟨gt,k,none⟩) (.inl (by simp)) _;have hs2:nC z g:=h.src.jS hot (fun hm=>by have:=hr g hm;omega) (fun q hq=>by have:=hr q hq;omega);have ht2:oC op gt S T bs z:=h.tb.jS hot (fun q hq hm=>h.nb q hm hq) (fun hm=>by have:=hr gt hm;omega);have hm2:=h.mp.snoc h1 h2 h3 h4 h6 hg h5;have hu:nZ S k ⟨A2,(S k).n+1,c2⟩ k=⟨A2,(S k).n+1,c2⟩:=by unfold nZ;rw[aj rfl]
 have hlt:=h.lt;refine⟨hs2.jS hst (by simp;omega) (by simp;omega),ht2.write h.hk.1 h.hk.2 ⟨A2,(S k).n+1,c2⟩,h.hk,?_,?_,h.kg,h.kt,h.kl,h.kb,fun q hq hm=>?_,hlt⟩
 ·rw[hu];exact hm2.jS hst (fun q hq=>by rw[aB.1 hq];exact htl)
 ·refine (h.ot.grown hg (fun q e=>.inr ?_)).setCell (p:=⟨gt,k,none⟩) (.inl h.kt) _;cases hA:(S k).A with
  | none=>rw[hA] at e;cases e
  | some a=>
   rw[hA] at e;simp[Value.ownBlock] at e;exact (hr q (by rw[hA];simp[jT,e])).1
 ·rw[hu] at hq;have hl:=h.tb.lt q hm;cases A2 with
  | none=>simp[jT] at hq
  | some a=>
   simp[jT] at hq;subst hq;rcases hA with e | e
   ·apply h.nb a.block ?_ hm;cases hB:(S k).A with
    | none=>rw[hB] at e;cases e
    | some b=>rw[hB] at e;simp[Value.ownBlock] at e;simp[jT,e]
   ·simp[Value.ownBlock] at e;omega
end
end
structure Nr (base:Nat)(A:Option Addr)(n c:Nat)(l:List Int)(ts bs:List Nat)(y:World):Prop where
 own:y.ownsRow base 3 1 (.slice A n c) n (Go.Proofs.YtkachcflifhgiaaGreatDoor.ints l)
 no:∀ q∈jT A,q∉ts/\q∉bs
section
variable {T T':Gm.Tab} {op:List Nat} {g gt base n c k:Nat} {A:Option Addr} {S:Nat->Sl} {bs K ts:List Nat} {x y z:World} {l:List Gm.Mp} {e:List Int}
theorem Nr.jS (h:Nr base A n c e ts bs y)(ho:jR K y z)(hK:∀ q∈K,q<base):Nr base A n c e ts bs z:=⟨uG h.own ho hK,h.no⟩
theorem Nr.below (h:Nr base A n c e ts bs y)(hb:Below y.heap.size y z):Nr base A n c e ts bs z:=⟨kD h.own hb,h.no⟩
theorem Nr.oI (h:Nr base A n c e ts bs y):∀ q∈jT A,base<=q/\q<y.heap.size:=fun q hq=>by
 cases A with
 | none=>simp[jT] at hq
 | some a=>
  have:=h.own.lt a.block (by simp[Value.ownBlock]);simp[jT] at hq;omega
theorem Nr.lt (h:Nr base A n c e ts bs y):e.length=n:=by have:=h.own.1;simpa[Go.Proofs.YtkachcflifhgiaaGreatDoor.ints] using this
theorem Mc.JI (h:Mc op k K x g gt T bs S l ts y)(hr:Nr x.heap.size A n c e ts bs y)(ho:jR (jT A) y z):Mc op k K x g gt T bs S l ts z:=by
 have hl:=hr.oI;have hgl:=h.kl g h.kg;have htl:=h.kl gt h.kt;have hty:lg y (jT A) [3]:=fun q hq=>by
  obtain⟨cs,hb⟩:=kV hr.own q hq;exact⟨_,cs,hb,by simp⟩
 exact⟨h.src.jS ho (fun hm=>by have:=hl g hm;omega) (fun q hq=>by have:=hl q hq;omega),h.tb.jS ho (fun q hq hm=>(hr.no q hm).2 hq) (fun hm=>by have:=hl gt hm;omega),h.hk,h.mp.JI ho hty (by decide) (fun q hq hm=>(hr.no q hm).1 hq),
  ((h.ot.more (T:=K++jT A) (fun q hq=>cZ _ hq)).trans (ho.more (fun q hq=>dZ _ hq))).old (fun q hq hlt=>(aO.1 hq).elim id (fun hm=>by have:=hl q hm;omega)),h.kg,h.kt,h.kl,h.kb,h.nb,h.lt⟩
end
theorem pG {w:World}(ty:TypeId){base:Nat}{v:Value}{n:Nat}{xs:List Int}(hown:w.ownsRow base 3 1 v n (ints xs)){B:Nat}{A:Option Addr}{m c:Nat}{ys:List Int}(hr:Rd w B 1 A m (ints ys))
  (hlen:n+m<=1000000) (hbase:base<=w.heap.size):∃ A' c' w',(Builtin.append_ #[22,22] ty #[v,.slice A m c]).run Tryz.prog w=.ok (.slice A' (n+m) c') w'/\w'.ownsRow base 3 1 (.slice A' (n+m) c') (n+m) (ints (xs++ys))/\w.grownBy w' v.ownBlock /\
   ((Value.slice A' (n+m) c').ownBlock=v.ownBlock\/(Value.slice A' (n+m) c').ownBlock=some w.heap.size):=by
 obtain⟨i0,hi,hz0,hz1,hz2⟩:=dR AP;obtain⟨v',w',h1,h2,h3,h4⟩:=wU (P:=Tryz.prog) base 22 ty 3 i0 (.int .i64 0) 1 8 bC hi hz0 hz1 hz2 rfl (by decide) v n (ints xs) hown B A m c (ints ys) hr (AL ys) (by unfold maxLen;omega) (by omega) hbase;obtain⟨A',c',rfl⟩:=o7 h2;rw[<-CU] at h2;exact⟨A',c',w',h1,h2,h3,h4⟩
theorem xW {w:World}(ty:TypeId){base:Nat}{v:Value}{n:Nat}{xs:List Value}(hown:w.ownsRow base 89 2 v n xs){B:Nat}{A:Option Addr}{m c:Nat}{ys:List Value}(hr:Rd w B 2 A m ys)(h1:∀ u∈ys,u.oneCell'=true)
  (hlen:n+m<=1000000) (hbase:base<=w.heap.size):∃ A' c' w',(Builtin.append_ #[24,24] ty #[v,.slice A m c]).run Tryz.prog w=.ok (.slice A' (n+m) c') w'/\w'.ownsRow base 89 2 (.slice A' (n+m) c') (n+m) (xs++ys)/\w.grownBy w' v.ownBlock /\
   ((Value.slice A' (n+m) c').ownBlock=v.ownBlock\/(Value.slice A' (n+m) c').ownBlock=some w.heap.size):=by
 obtain⟨i0,hi,hz0,hz1,hz2⟩:=dR Qd;obtain⟨v',w',h1,h2,h3,h4⟩:=wU (P:=Tryz.prog) base 24 ty 89 i0 (.agg #[.int .i64 0,.slice none 0 0]) 2 32 Tryz.underlying24 hi hz0 hz1 hz2 rfl (by decide) v n xs hown B A m c ys hr h1 (by unfold maxLen;omega) (by omega) hbase;obtain⟨A',c',rfl⟩:=o7 h2;exact⟨A',c',w',h1,h2,h3,h4⟩
section
variable {T T':Gm.Tab} {op:List Nat} {g gt base n c k:Nat} {A:Option Addr} {S:Nat->Sl} {bs ts K:List Nat} {x y z:World} {l:List Gm.Mp} {e:List Int}
theorem o_ {A2:Option Addr}{n2 c2 m:Nat}(hA:(Value.slice A2 n2 c2).ownBlock=(Value.slice A n c).ownBlock\/(Value.slice A2 n2 c2).ownBlock=some m):∀ q∈jT A2,q∈jT A\/q=m:=by
 intro q hq;cases A2 with
 | none=>simp[jT] at hq
 | some a=>
  simp[jT] at hq;subst hq;rcases hA with e | e
  ·cases A with
   | none=>cases e
   | some b=>simp[Value.ownBlock] at e;exact .inl (by simp[jT,e])
  ·simp[Value.ownBlock] at e;exact .inr e
theorem kR (h:x.grownBy y (Value.slice A n c).ownBlock):jR (jT A) x y:=(jR.refl (jT A) x).grown h (fun q e=>by
  cases A with
  | none=>cases e
  | some a=>simp[Value.ownBlock] at e;exact .inl (by simp[jT,e]))
theorem qF {base size n c:Nat}{e:TypeId}{A:Option Addr}{xs:List Value}(h:x.ownsRow base e size (.slice A n c) n xs)(ho:jR K x y)(hd:∀ q∈jT A,q∉K):y.ownsRow base e size (.slice A n c) n xs:=by
 refine⟨h.1,?_⟩;rcases h.2 with h2 | ⟨g,cap,cur,h1,h2,h3,h4⟩
 ·exact .inl h2
 ·injection h1 with h1 h1b h1c
  subst h1;exact .inr ⟨g,cap,cur,by rw[h1c],h2,ho.heap h3 (hd g (by simp[jT])),h4⟩
theorem Mc.off {zb:Nat}(h:Mc op k K x g gt T bs S l ts y)(ho:jR [zb] y z)(hz:x.heap.size<=zb)(h1:zb∉bs)(h2:zb∉ts)(h3:zb∉jT (S k).A):Mc op k K x g gt T bs S l ts z:=by
 have hgl:=h.kl g h.kg;have htl:=h.kl gt h.kt;obtain⟨⟨cs,m1,m2,m3⟩,m4⟩:=h.mp;have hno:∀ q∈ts,q∉[zb]:=fun q hq hm=>h2 (by rw[<-aB.1 hm];exact hq);refine⟨h.src.jS ho (by simp;omega) (by simp;omega),h.tb.jS ho (fun q hq hm=>h1 (by rw[<-aB.1 hm];exact hq)) (by simp;omega),h.hk,⟨⟨cs,qF m1 ho (fun q hq hm=>h3 (by rw[<-aB.1 hm];exact hq)),m2,m3.jS ho (fun q hq=>by obtain⟨_,cs,hb⟩:=m4 q hq;exact hb.lt) hno⟩,fun q hq=>?_⟩,
  ((h.ot.more (T:=K++[zb]) (fun q hq=>cZ _ hq)).trans (ho.more (fun q hq=>dZ _ hq))).old (fun q hq hlt=>(aO.1 hq).elim id (fun hm=>by have:=aB.1 hm;omega)),h.kg,h.kt,h.kl,h.kb,h.nb,h.lt⟩
 obtain⟨m5,cs,hb⟩:=m4 q hq;exact⟨m5,cs,hb.jS ho (hno q hq)⟩
theorem Mc.write {j:Nat}(h:Mc op k K x g gt T bs S l ts y)(hj:j∈op)(hj2:j<12)(hjk:j≠k)(s:Sl):Mc op k K x g gt T bs (nZ S j s) l ts (y.setCell ⟨gt,j,none⟩ (.slice s.A s.n s.c)):=by
 have hst:jR [gt] y (y.setCell ⟨gt,j,none⟩ (.slice s.A s.n s.c)):=(jR.refl [gt] y).setCell (p:=⟨gt,j,none⟩) (.inl (by simp)) _;have hu:nZ S j s k=S k:=by unfold nZ;rw[ah (fun e=>hjk e.symm)]
 have hlt:=h.lt;have htl:=h.kl gt h.kt;exact⟨h.src.jS hst (by simp;omega) (by simp;omega),h.tb.write hj hj2 s,h.hk,by rw[hu];exact h.mp.jS hst (fun q hq=>by rw[aB.1 hq];exact htl),h.ot.trans (hst.more (fun q hq=>by rw[aB.1 hq];exact h.kt)),h.kg,h.kt,h.kl,h.kb,by rw[hu];exact h.nb,hlt⟩
end
structure Dw (x:World)(g gt:Nat)(T:Gm.Tab)(bs:List Nat)(S:Nat->Sl)(d:List Gm.Mp)(e:List Int)(ts:List Nat)(zb:Nat)(c0:Int)(A1:Option Addr)(n1 c1:Nat)(kJ:List Int)(y:World):Prop where
 mc:Mc [9,10] 9 [g,gt] x g gt T bs S d ts y
 ex:Nr x.heap.size (S 10).A (S 10).n (S 10).c e ts bs y
 bx:Bk y zb 89 #[.int .i64 c0,.slice A1 n1 c1]
 zl:x.heap.size<=zb
 zn:zb∉jT (S 9).A
 nr:Nr x.heap.size A1 n1 c1 kJ ts bs y
 ap:∀ q∈jT A1,q∉jT (S 10).A
 bl:∀ q∈bs,q<x.heap.size
section
variable {T:Gm.Tab} {g gt n1 c1 zb:Nat} {c0:Int} {A1:Option Addr} {S:Nat->Sl} {bs ts:List Nat} {x y z:World} {d:List Gm.Mp} {e kJ:List Int}
theorem Dw.gl (h:Dw x g gt T bs S d e ts zb c0 A1 n1 c1 kJ y):g<x.heap.size/\gt<x.heap.size:=⟨h.mc.kl g h.mc.kg,h.mc.kl gt h.mc.kt⟩
theorem Dw.turn (h:Dw x g gt T bs S d e ts zb c0 A1 n1 c1 kJ y)(hs:nC z g)(ho:jR [g] y z):Dw x g gt T bs S d e ts zb c0 A1 n1 c1 kJ z:=by
 have hl:=h.gl;have hzl:=h.zl;have hK:∀ q∈[g],q<x.heap.size:=fun q hq=>by rw[aB.1 hq];exact hl.1
 exact⟨h.mc.turn hs ho,h.ex.jS ho hK,h.bx.jS ho (by simp;omega),h.zl,h.zn,h.nr.jS ho hK,h.ap,h.bl⟩
theorem Dw.below (h:Dw x g gt T bs S d e ts zb c0 A1 n1 c1 kJ y)(hb:Below y.heap.size y z):Dw x g gt T bs S d e ts zb c0 A1 n1 c1 kJ z:=
 ⟨h.mc.below hb,h.ex.below hb,h.bx.below hb h.bx.lt,h.zl,h.zn,h.nr.below hb,h.ap,h.bl⟩
theorem Dw.row {A2:Option Addr}{n2 c2:Nat}{DI:List Int}(h:Dw x g gt T bs S d e ts zb c0 A1 n1 c1 kJ y)(ho:jR (jT A1) y z)(hn:z.ownsRow x.heap.size 3 1 (.slice A2 n2 c2) n2 (ints DI))(hA:∀ q∈jT A2,q∈jT A1\/q=y.heap.size) :
  Mc [9,10] 9 [g,gt] x g gt T bs S d ts z/\Nr x.heap.size (S 10).A (S 10).n (S 10).c e ts bs z/\Bk z zb 89 #[.int .i64 c0,.slice A1 n1 c1]/\Nr x.heap.size A2 n2 c2 DI ts bs z/\(∀ q∈jT A2,q∉jT (S 10).A):=by
 have hy:=h.mc.ot.size;refine⟨h.mc.JI h.nr ho,⟨qF h.ex.own ho (fun q hq hm=>h.ap q hm hq),h.ex.no⟩,h.bx.jS ho (fun hm=>by
   obtain⟨cs,hb⟩:=kV h.nr.own zb hm;exact Bk.ne hb h.bx (by decide) rfl),⟨hn,fun q hq=>?_⟩,fun q hq hm=>?_⟩
 ·rcases hA q hq with e | e
  ·exact h.nr.no q e
  ·exact⟨fun hm=>by have:=h.mc.mp.lt q hm;omega,fun hm=>by have:=h.bl q hm;omega⟩
 ·rcases hA q hq with e | e
  ·exact h.ap q e hm
  ·have:=(h.ex.oI q hm).2;omega
theorem Dw.box (h:Mc [9,10] 9 [g,gt] x g gt T bs S d ts y)(hx:Nr x.heap.size (S 10).A (S 10).n (S 10).c e ts bs y)(hb:Bk y zb 89 #[.int .i64 c0,.slice A1 n1 c1])(hz:x.heap.size<=zb)(hn:zb∉jT (S 9).A){A2:Option Addr}{n2 c2:Nat}(hr:Nr x.heap.size A2 n2 c2 kJ ts bs y)
  (ha:∀ q∈jT A2,q∉jT (S 10).A) (hbl:∀ q∈bs,q<x.heap.size):Dw x g gt T bs S d e ts zb c0 A2 n2 c2 kJ (y.setCell ⟨zb,1,none⟩ (.slice A2 n2 c2)):=by
 have hst:jR [zb] y (y.setCell ⟨zb,1,none⟩ (.slice A2 n2 c2)):=(jR.refl [zb] y).setCell (p:=⟨zb,1,none⟩) (.inl (by simp)) _;have hts:zb∉ts:=fun hm=>by
  obtain⟨_,cs,hb2⟩:=h.mp.ty zb hm;exact Bk.ne hb2 hb (by decide) rfl
 have hi:∀ {A:Option Addr} {n c:Nat} {l:List Int},Nr x.heap.size A n c l ts bs y->∀ q∈jT A,q∉[zb]:=fun hr q hq hm=>by
  obtain⟨cs,hb2⟩:=kV hr.own q hq;exact Bk.ne hb2 hb (by decide) (aB.1 hm)
 exact⟨h.off hst hz (fun hm=>by have:=hbl zb hm;omega) hts hn,⟨qF hx.own hst (hi hx),hx.no⟩,hb.kM 1 _,hz,hn,⟨qF hr.own hst (hi hr),hr.no⟩,ha,hbl⟩
theorem Dw.exc {A2:Option Addr}{n2 c2:Nat}{e2:List Int}(h:Dw x g gt T bs S d e ts zb c0 A1 n1 c1 kJ y)(ho:jR (jT (S 10).A) y z)(hn:z.ownsRow x.heap.size 3 1 (.slice A2 n2 c2) n2 (ints e2))(hA:∀ q∈jT A2,q∈jT (S 10).A\/q=y.heap.size) :
  Dw x g gt T bs (nZ S 10 ⟨A2,n2,c2⟩) d e2 ts zb c0 A1 n1 c1 kJ (z.setCell ⟨gt,10,none⟩ (.slice A2 n2 c2)):=by
 have hy:=h.mc.ot.size;have hl:=h.gl;have hm2:=(h.mc.JI h.ex ho).write (j:=10) (by simp) (by omega) (by omega) ⟨A2,n2,c2⟩;have hst:jR [gt] z (z.setCell ⟨gt,10,none⟩ (.slice A2 n2 c2)):=(jR.refl [gt] z).setCell (p:=⟨gt,10,none⟩) (.inl (by simp)) _;have hzl:=h.zl;have hK:∀ q∈[gt],q<x.heap.size:=fun q hq=>by rw[aB.1 hq];exact hl.2
 have hbz:Bk z zb 89 #[.int .i64 c0,.slice A1 n1 c1]:=h.bx.jS ho (fun hm=>by
   obtain⟨cs,hb⟩:=kV h.ex.own zb hm;exact Bk.ne hb h.bx (by decide) rfl)
 refine⟨hm2,⟨uG hn hst hK,fun q hq=>?_⟩,hbz.jS hst (by simp;omega),h.zl,h.zn,⟨uG (qF h.nr.own ho (fun q hq hm=>h.ap q hq hm)) hst hK,h.nr.no⟩,fun q hq hm=>?_,h.bl⟩
 ·rcases hA q hq with e | e
  ·exact h.ex.no q e
  ·exact⟨fun hm=>by have:=h.mc.mp.lt q hm;omega,fun hm=>by have:=h.bl q hm;omega⟩
 ·rcases hA q hm with e | e
  ·exact h.ap q hq e
  ·have:=(h.nr.oI q hq).2;omega
theorem Dw.fin {A2:Option Addr}{c2:Nat}{cs:List Value}(h:Dw x g gt T bs S d e ts zb c0 A1 kJ.length c1 kJ y)(h1:y.ownsRow x.heap.size 89 2 (.slice (S 9).A (S 9).n (S 9).c) (S 9).n cs)(h2:d.length=(S 9).n)(h3:Kt y cs d ts)
  (hg:y.grownBy z (Value.slice (S 9).A (S 9).n (S 9).c).ownBlock) (h5:z.ownsRow x.heap.size 89 2 (.slice A2 ((S 9).n+1) c2) ((S 9).n+1) (cs++[.int .i64 c0,.slice A1 kJ.length c1]))
  (hA:(Value.slice A2 ((S 9).n+1) c2).ownBlock=(Value.slice (S 9).A (S 9).n (S 9).c).ownBlock\/(Value.slice A2 ((S 9).n+1) c2).ownBlock=some y.heap.size) :
  Mc [9,10] 9 [g,gt] x g gt T bs (nZ S 9 ⟨A2,(S 9).n+1,c2⟩) (d++[⟨c0,kJ⟩]) (jT A1++ts) (z.setCell ⟨gt,9,none⟩ (.slice A2 ((S 9).n+1) c2))/\Nr x.heap.size (S 10).A (S 10).n (S 10).c e (jT A1++ts) bs (z.setCell ⟨gt,9,none⟩ (.slice A2 ((S 9).n+1) c2)):=by
 obtain⟨t1,t2⟩:=XX h.nr.own;have hl:=h.gl;refine⟨h.mc.put (m:=⟨c0,kJ⟩) h1 h2 h3 t1 t2 hg h5 hA,⟨?_,fun q hq=>⟨fun hm=>?_,(h.ex.no q hq).2⟩⟩⟩
 ·have hst:jR [gt] z (z.setCell ⟨gt,9,none⟩ (.slice A2 ((S 9).n+1) c2)):=(jR.refl [gt] z).setCell (p:=⟨gt,9,none⟩) (.inl (by simp)) _;refine uG (qF h.ex.own (kR hg) (fun q hq hm=>?_)) hst (fun q hq=>by rw[aB.1 hq];exact hl.2);obtain⟨c5,hb5⟩:=kV h.ex.own q hq;obtain⟨c6,hb6⟩:=kV h1 q hm;exact Bk.ne hb5 hb6 (by decide) rfl
 ·rcases aO.1 hm with e | e
  ·exact h.ap q e hq
  ·exact (h.ex.no q hq).1 e
theorem Nr.new {base:Nat}(y:World)(v:Int)(hb:base<=y.heap.size)(h1:∀ q∈ts,q<y.heap.size)(h2:∀ q∈bs,q<y.heap.size):Nr base (some ⟨y.heap.size,0,none⟩) 1 1 [v] ts bs (y.alloc (.cells #[.int .i64 v] 3)):=
 ⟨rZ y base 3 #[.int .i64 v] 1 rfl (by unfold maxLen;omega) hb,fun q hq=>by
  simp[jT] at hq;subst hq;exact⟨fun hm=>by have:=h1 _ hm;omega,fun hm=>by have:=h2 _ hm;omega⟩⟩
theorem Dw.start (h:Mc [9,10] 9 [g,gt] x g gt T bs S d ts y)(he:Nr x.heap.size (S 10).A (S 10).n (S 10).c e ts bs y)(hbl:∀ q∈bs,q<x.heap.size)(c0 v:Int) :
  Dw x g gt T bs S d e ts (y.heap.size+1) c0 (some ⟨y.heap.size,0,none⟩) 1 1 [v] ((y.alloc (.cells #[.int .i64 v] 3)).alloc (.cells #[.int .i64 c0,.slice (some ⟨y.heap.size,0,none⟩) 1 1] 89)):=by
 have hy:=h.ot.size;have hb:=mP y (.cells #[.int .i64 v] 3) (.cells #[.int .i64 c0,.slice (some ⟨y.heap.size,0,none⟩) 1 1] 89);have hn:Nr x.heap.size (some ⟨y.heap.size,0,none⟩) 1 1 [v] ts bs (y.alloc (.cells #[.int .i64 v] 3)):=Nr.new y v hy h.mp.lt h.tb.lt;refine⟨h.below hb,he.below hb,l_ _ _ _ _,by omega,fun hm=>?_,hn.below ((ai _ _).alloc (ag _) _),fun q hq hm=>?_,hbl⟩
 ·have:=(h.mp.oI _ hm).2;omega
 ·simp[jT] at hq;subst hq;have:=(he.oI _ hm).2;omega
theorem Dw.set0 {za:Nat}{v:Int}(h:Dw x g gt T bs S d e ts zb c0 (some ⟨za,0,none⟩) 1 c1 [v] y)(u:Int):Dw x g gt T bs S d e ts zb c0 (some ⟨za,0,none⟩) 1 c1 [u] (y.setCell ⟨za,0,none⟩ (.int .i64 u)):=by
 have ho:jR (jT (some ⟨za,0,none⟩)) y (y.setCell ⟨za,0,none⟩ (.int .i64 u)):=(jR.refl _ y).setCell (p:=⟨za,0,none⟩) (.inl (by simp[jT])) _;have hn:=Ac h.nr.own (i:=0) (by omega) u;obtain⟨a,b,c,d1,e1⟩:=h.row ho (DI:=[u]) hn (fun q hq=>.inl hq);exact⟨a,b,c,h.zl,h.zn,d1,e1,h.bl⟩
theorem Dw.grow {A2:Option Addr}{n2 c2:Nat}{DI:List Int}(h:Dw x g gt T bs S d e ts zb c0 A1 n1 c1 kJ y)(hg:y.grownBy z (Value.slice A1 n1 c1).ownBlock)(hn:z.ownsRow x.heap.size 3 1 (.slice A2 n2 c2) n2 (ints DI))
  (hA:(Value.slice A2 n2 c2).ownBlock=(Value.slice A1 n1 c1).ownBlock\/(Value.slice A2 n2 c2).ownBlock=some y.heap.size):Dw x g gt T bs S d e ts zb c0 A2 n2 c2 DI (z.setCell ⟨zb,1,none⟩ (.slice A2 n2 c2)):=by
 obtain⟨a,b,c,d1,e1⟩:=h.row (kR hg) hn (o_ hA);exact Dw.box a b c h.zl h.zn d1 e1 h.bl
end
structure Mt (x:World)(g gt q0 bp base qC:Nat)(T:Gm.Tab)(bs:List Nat)(S:Nat->Sl)(l:List Rg.Sn)(mp:List Gm.Mp)(ts:List Nat)(st:List Int)(ou:List Nat)(y:World):Prop where
 mc:Mc [8] 8 [g,gt,q0] x g gt (T.sZ 5 l) ou S mp ts y
 st:y.ownsRow base 3 1 (.slice (some ⟨q0,0,none⟩) 28 qC) 28 (ints st)
 pb:Bk y bp 3 (ints Gm.nR).toArray
 pl:x.heap.size<=bp
 qg:gt<q0
 bb:∀ q∈ou,q∈bs\/x.heap.size<=q
section
variable {x y z:World} {g gt q0 bp base qC zb:Nat} {T:Gm.Tab} {bs ou ts:List Nat} {S:Nat->Sl} {l:List Rg.Sn} {mp:List Gm.Mp} {st:List Int}
theorem Mt.kl (h:Mt x g gt q0 bp base qC T bs S l mp ts st ou y):g<gt/\gt<q0/\q0<x.heap.size:=⟨h.mc.lt,h.qg,h.mc.kl q0 (by simp)⟩
theorem Mt.turn (h:Mt x g gt q0 bp base qC T bs S l mp ts st ou y)(hs:nC z g)(ho:jR [g] y z):Mt x g gt q0 bp base qC T bs S l mp ts st ou z:=by
 have hk:=h.kl;have hp:=h.pl;exact⟨h.mc.turn hs ho,qF h.st ho (fun q hq=>by simp[jT] at hq;simp;omega),h.pb.jS ho (by simp;omega),h.pl,h.qg,h.bb⟩
theorem Mt.below (h:Mt x g gt q0 bp base qC T bs S l mp ts st ou y)(hb:Below y.heap.size y z):Mt x g gt q0 bp base qC T bs S l mp ts st ou z:=
 ⟨h.mc.below hb,kD h.st hb,h.pb.below hb h.pb.lt,h.pl,h.qg,h.bb⟩
theorem Mt.set (h:Mt x g gt q0 bp base qC T bs S l mp ts st ou y){i:Nat}(hi:i<28)(u:Int):Mt x g gt q0 bp base qC T bs S l mp ts (st.set i u) ou (y.setCell ⟨q0,i,none⟩ (.int .i64 u)):=by
 have hk:=h.kl;have hp:=h.pl;have ho:jR [q0] y (y.setCell ⟨q0,i,none⟩ (.int .i64 u)):=(jR.refl _ y).setCell (p:=⟨q0,i,none⟩) (.inl (by simp)) _;exact⟨h.mc.other ho (by simp) (by simp;omega) (by simp;omega),Ac h.st hi u,h.pb.jS ho (by simp;omega),h.pl,h.qg,h.bb⟩
theorem Mt.col {S':Nat->Sl}{bs3:List Nat}{l':List Rg.Sn}(h:Mt x g gt q0 bp base qC T bs S l mp ts st ou y)(ht:oC [8] gt S' (T.sZ 5 l') bs3 z)(hbs:∀ q∈bs3,q∈ou\/y.heap.size<=q)(ho:jR [gt] y z)(hS:S' 8=S 8):Mt x g gt q0 bp base qC T bs S' l' mp ts st bs3 z:=by
 have hk:=h.kl;have hp:=h.pl;have hy:=h.mc.ot.size;exact⟨h.mc.col ht hbs ho hS,qF h.st ho (fun q hq=>by simp[jT] at hq;simp;omega),h.pb.jS ho (by simp;omega),h.pl,h.qg,fun q hq=>by
  rcases hbs q hq with e | e
  ·exact h.bb q e
  ·exact .inr (by omega)⟩
end
structure Mw (x:World)(g gt q0 bp base qC:Nat)(T:Gm.Tab)(bs:List Nat)(S:Nat->Sl)(l:List Rg.Sn)(mp:List Gm.Mp)(ts:List Nat)(st:List Int)(ou:List Nat)(zb:Nat)(c0:Int)(A1:Option Addr)(n1 c1:Nat)(kJ:List Int)(y:World):Prop where
 mt:Mt x g gt q0 bp base qC T bs S l mp ts st ou y
 bx:Bk y zb 89 #[.int .i64 c0,.slice A1 n1 c1]
 zl:x.heap.size<=zb
 zn:zb∉jT (S 8).A
 zs:zb∉ou
 nr:Nr x.heap.size A1 n1 c1 kJ ts ou y
 np:bp∉jT A1
section
variable {x y z:World} {g gt q0 bp base qC zb n1 c1:Nat} {c0:Int} {T:Gm.Tab} {bs ou ts:List Nat} {S:Nat->Sl} {l:List Rg.Sn} {mp:List Gm.Mp} {st kJ:List Int} {A1:Option Addr}
theorem Mw.start (h:Mt x g gt q0 bp base qC T bs S l mp ts st ou y)(c0 v:Int) :
  Mw x g gt q0 bp base qC T bs S l mp ts st ou (y.heap.size+1) c0 (some ⟨y.heap.size,0,none⟩) 1 1 [v] ((y.alloc (.cells #[.int .i64 v] 3)).alloc (.cells #[.int .i64 c0,.slice (some ⟨y.heap.size,0,none⟩) 1 1] 89)):=by
 have hy:=h.mc.ot.size;have hb:=mP y (.cells #[.int .i64 v] 3) (.cells #[.int .i64 c0,.slice (some ⟨y.heap.size,0,none⟩) 1 1] 89);have hn:Nr x.heap.size (some ⟨y.heap.size,0,none⟩) 1 1 [v] ts ou (y.alloc (.cells #[.int .i64 v] 3)):=Nr.new y v hy h.mc.mp.lt h.mc.tb.lt;have hp:=h.pb.lt;exact⟨h.below hb,l_ _ _ _ _,by omega,fun hm=>by have:=(h.mc.mp.oI _ hm).2;omega,fun hm=>by have:=h.mc.tb.lt _ hm;omega,hn.below ((ai _ _).alloc (ag _) _),by simp[jT];omega⟩
theorem Mw.turn (h:Mw x g gt q0 bp base qC T bs S l mp ts st ou zb c0 A1 n1 c1 kJ y)(hs:nC z g)(ho:jR [g] y z):Mw x g gt q0 bp base qC T bs S l mp ts st ou zb c0 A1 n1 c1 kJ z:=by
 have hk:=h.mt.kl;have hz:=h.zl;exact⟨h.mt.turn hs ho,h.bx.jS ho (by simp;omega),h.zl,h.zn,h.zs,h.nr.jS ho (fun q hq=>by rw[aB.1 hq];omega),h.np⟩
theorem Mw.below (h:Mw x g gt q0 bp base qC T bs S l mp ts st ou zb c0 A1 n1 c1 kJ y)(hb:Below y.heap.size y z):Mw x g gt q0 bp base qC T bs S l mp ts st ou zb c0 A1 n1 c1 kJ z:=
 ⟨h.mt.below hb,h.bx.below hb h.bx.lt,h.zl,h.zn,h.zs,h.nr.below hb,h.np⟩
theorem Mw.grow {A2:Option Addr}{n2 c2:Nat}{DI:List Int}(h:Mw x g gt q0 bp base qC T bs S l mp ts st ou zb c0 A1 n1 c1 kJ y)(hg:y.grownBy z (Value.slice A1 n1 c1).ownBlock)(hn:z.ownsRow x.heap.size 3 1 (.slice A2 n2 c2) n2 (ints DI))
  (hA:(Value.slice A2 n2 c2).ownBlock=(Value.slice A1 n1 c1).ownBlock\/(Value.slice A2 n2 c2).ownBlock=some y.heap.size):Bk z zb 89 #[.int .i64 c0,.slice A1 n1 c1]/\Mw x g gt q0 bp base qC T bs S l mp ts st ou zb c0 A2 n2 c2 DI (z.setCell ⟨zb,1,none⟩ (.slice A2 n2 c2)):=by
 have hk:=h.mt.kl;have hy:=h.mt.mc.ot.size;have hr:=h.nr.oI;have hpl:=h.mt.pl;have hot:jR (jT A1) y z:=kR hg;have hbz:Bk z zb 89 #[.int .i64 c0,.slice A1 n1 c1]:=h.bx.jS hot (fun hm=>by
   obtain⟨cs,hb⟩:=kV h.nr.own zb hm;exact Bk.ne hb h.bx (by decide) rfl)
 have hst:jR [zb] z (z.setCell ⟨zb,1,none⟩ (.slice A2 n2 c2)):=(jR.refl [zb] z).setCell (p:=⟨zb,1,none⟩) (.inl (by simp)) _;have hzl:=h.zl;have hmc:Mc [8] 8 [g,gt,q0] x g gt (T.sZ 5 l) ou S mp ts z:=h.mt.mc.JI h.nr hot;have hts:zb∉ts:=fun hm=>by
  obtain⟨_,cs,hb2⟩:=hmc.mp.ty zb hm;exact Bk.ne hb2 hbz (by decide) rfl
 have hpz:Bk z bp 3 (ints Gm.nR).toArray:=h.mt.pb.jS hot h.np;have hiz:∀ q cs,Bk z q 3 cs->q∉[zb]:=fun q cs hb hm=>Bk.ne hb hbz (by decide) (aB.1 hm);have hnn:∀ q∈jT A2,q∈jT A1\/q=y.heap.size:=o_ hA;refine⟨hbz,⟨hmc.off hst hzl h.zs hts h.zn,qF (qF h.mt.st hot (fun q hq hm=>?_)) hst (fun q hq=>?_),hpz.jS hst (hiz bp _ hpz),h.mt.pl,h.mt.qg,h.mt.bb⟩,hbz.kM 1 _,hzl,h.zn,h.zs,⟨qF hn hst (fun q hq=>?_),fun q hq=>?_⟩,fun hm=>?_⟩
 ·simp[jT] at hq;have:=hr q hm;omega
 ·simp[jT] at hq;simp;omega
 ·obtain⟨cs,hb⟩:=kV hn q hq;exact hiz q cs hb
 ·rcases hnn q hq with e | e
  ·exact h.nr.no q e
  ·exact⟨fun hm=>by have:=h.mt.mc.mp.lt q hm;omega,fun hm=>by have:=h.mt.mc.tb.lt q hm;omega⟩
 ·rcases hnn _ hm with e | e
  ·exact h.np e
  ·have:=h.mt.pb.lt;omega
theorem Mw.fin {A2:Option Addr}{c2:Nat}{cs:List Value}(h:Mw x g gt q0 bp base qC T bs S l mp ts st ou zb c0 A1 kJ.length c1 kJ y)(h1:y.ownsRow x.heap.size 89 2 (.slice (S 8).A (S 8).n (S 8).c) (S 8).n cs)(h2:mp.length=(S 8).n)(h3:Kt y cs mp ts)
  (hg:y.grownBy z (Value.slice (S 8).A (S 8).n (S 8).c).ownBlock) (h5:z.ownsRow x.heap.size 89 2 (.slice A2 ((S 8).n+1) c2) ((S 8).n+1) (cs++[.int .i64 c0,.slice A1 kJ.length c1]))
  (hA:(Value.slice A2 ((S 8).n+1) c2).ownBlock=(Value.slice (S 8).A (S 8).n (S 8).c).ownBlock\/(Value.slice A2 ((S 8).n+1) c2).ownBlock=some y.heap.size) :
  Mt x g gt q0 bp base qC T bs (nZ S 8 ⟨A2,(S 8).n+1,c2⟩) l (mp++[⟨c0,kJ⟩]) (jT A1++ts) st ou (z.setCell ⟨gt,8,none⟩ (.slice A2 ((S 8).n+1) c2)):=by
 obtain⟨t1,t2⟩:=XX h.nr.own;have hk:=h.mt.kl;have hpl:=h.mt.pl;have hot:=kR hg;have hst:jR [gt] z (z.setCell ⟨gt,8,none⟩ (.slice A2 ((S 8).n+1) c2)):=(jR.refl [gt] z).setCell (p:=⟨gt,8,none⟩) (.inl (by simp)) _;have hi:∀ q cs,Bk y q 3 cs->q∉jT (S 8).A:=fun q cs hb hm=>by
  obtain⟨c6,hb6⟩:=kV h1 q hm;exact Bk.ne hb hb6 (by decide) rfl
 refine⟨h.mt.mc.put (m:=⟨c0,kJ⟩) h1 h2 h3 t1 t2 hg h5 hA,qF (qF h.mt.st hot (fun q hq=>?_)) hst (fun q hq=>?_),(h.mt.pb.jS hot (hi bp _ h.mt.pb)).jS hst (by simp;omega),h.mt.pl,h.mt.qg,h.mt.bb⟩
 ·obtain⟨cs,hb⟩:=kV h.mt.st q hq;exact hi q cs hb
 ·simp[jT] at hq;simp;omega
end
end Go.Proofs.YtkachcflifhgiaaGreatDoor
