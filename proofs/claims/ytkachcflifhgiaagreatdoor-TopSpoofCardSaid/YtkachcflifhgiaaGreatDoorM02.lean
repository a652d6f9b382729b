/-        -/
import Derived.Test.YtkachcflifhgiaaGreatDoorM01
set_option linter.unusedVariables false
set_option maxRecDepth 100000
set_option maxHeartbeats 16000000
namespace Go.Proofs.YtkachcflifhgiaaGreatDoor.Gm
def kE (l:List Int):Int:=if 4096<l.length then 7 else if l.any (fun c=>kS c==0) then 3 else 0
def order (T:Tab)(l:List Int):List Int×Int:=if kE l=0 then (sort T l,0) else ([],kE l)
def oW (T:Tab)(l:List Int):List Int×Int:=if kE l≠0 then ([],kE l) else if 4096<(n_ T l).length then ([],7) else (n_ T l,0)
def qG (T:Tab)(l:List Int):List Int×Int:=if (oW T l).2≠0 then ([],(oW T l).2) else (oM T (oW T l).1,0)
def zY (T:Tab)(l:List Int):Bool:=decide ((qG T l).2=0)&&((qG T l).1==l)
def sD (T:Tab):List Int->Nat->List Int->List Int×Option Nat
 | out,_,[]=>(out,none)
 | out,i,c::r=>if jU T c=1\/jU T c=4 then sD T (out++[c]) (i+1) r else if jU T c=3 then sD T (out++maps T c) (i+1) r else if jU T c=0 then (out,some i) else sD T out (i+1) r
def map (T:Tab)(l:List Int):List Int×Int×Int:=
 if kE l≠0 then ([],0,kE l) else match sD T [] 0 l with
  | (_,some i)=>([],(i:Int),16)
  | (out,none)=>if 4096<out.length then ([],0,7) else (out,0,0)
def nextL (T:Tab)(l:List Int):Nat->Int
 | 0=>-1
 | i+1=>if ku T (l.getD i 0)=5 then nextL T l i else (i:Int)
def oQ (T:Tab):List Int->Nat->Int
 | [],_=>-1
 | c::r,i=>if ku T c=5 then oQ T r (i+1) else (i:Int)
def joins (T:Tab)(l:List Int)(i side:Int):Bool:=if i<0 then false else decide (ku T (l.getD i.toNat 0)=side\/ku T (l.getD i.toNat 0)=3)
def vg (T:Tab)(l:List Int)(i:Nat):Bool:=
 if l.getD i 0≠8204/\l.getD i 0≠8205 then true else if 0<i/\cls T (l.getD (i-1) 0)=9 then true
 else decide (l.getD i 0=8204)&&joins T l (nextL T l i) 1&&joins T l (oQ T (l.drop (i+1)) (i+1)) 2
def l9 (p:Nat->Bool):Nat->Nat->Option Nat
 | 0,_=>none
 | n+1,i=>if p i=true then l9 p n (i+1) else some i
def oq (T:Tab)(l:List Int):Int×Int:=if kE l≠0 then (0,kE l) else match l9 (vg T l) l.length 0 with
 | some i=>((i:Int),17)
 | none=>(0,0)
def C9 (c:Int):Bool:=decide (1632<=c)&&decide (c<=1641)
def CX (c:Int):Bool:=decide (1776<=c)&&decide (c<=1785)
def DW (T:Tab)(c:Int):Bool:=decide (scr T c=7\/scr T c=8\/scr T c=6)
def D6 (T:Tab)(l:List Int)(i:Int)(s:Int):Bool:=decide (0<=i/\i<l.length)&&decide (scr T (l.getD i.toNat 0)=s)
def xA (T:Tab)(l:List Int)(i:Nat):Bool:=
 let c:=l.getD i 0
 if c=183 then decide (0<i/\(i:Int)<l.length-1)&&decide (l.getD (i-1) 0=108)&&decide (l.getD (i+1) 0=108)
 else if c=885 then D6 T l ((i:Int)+1) 4
 else if c=1523\/c=1524 then D6 T l ((i:Int)-1) 11
 else if c=12539 then l.any (DW T)
 else if C9 c=true then !(l.any CX)
 else if CX c=true then !(l.any C9)
 else true
def context (T:Tab)(l:List Int):Int×Int:=if kE l≠0 then (0,kE l) else match l9 (xA T l) l.length 0 with
 | some i=>((i:Int),18)
 | none=>(0,0)
def hasB (T:Tab)(l:List Int)(ks:List Int):Bool:=l.any (fun c=>ks.contains (jX T c))
def GY (T:Tab)(l:List Int):Bool:=decide (kE l=0)&&hasB T l [1,2,3]
def lastB (T:Tab)(l:List Int):Option Int:=(l.reverse.find? (fun c=>jX T c != 10)).map (jX T)
def rule (T:Tab)(l:List Int):Int:=match l with
 | []=>0
 | a::_=>
  if jX T a=1\/jX T a=2 then
   (if hasB T l [0,11]=true then 2 else if ((lastB T l).map (fun k=>[1,2,3,4].contains k)).getD false=false then 3 else if (hasB T l [4]&&hasB T l [3])=true then 4 else 0)
  else if jX T a=0 then
   (if hasB T l [1,2,3,11]=true then 5 else if ((lastB T l).map (fun k=>[0,4].contains k)).getD false=false then 6 else 0)
  else 1
def domain (T:Tab)(ls:List (List Int)):Int×Int:=match l9 (fun i=>decide (kE (ls.getD i [])=0)) ls.length 0 with
 | some i=>((i:Int),kE (ls.getD i []))
 | none=>if ls.any (GY T)=true then (match l9 (fun i=>decide (rule T (ls.getD i [])=0)) ls.length 0 with
  | some i=>((i:Int),19)
  | none=>(0,0)) else (0,0)
def bits (ks:List Int):Nat:=ks.foldl (fun s k=>s ||| 2 ^ k.toNat) 0
def allB:Nat:=2 ^ 64-1
def basis (T:Tab)(c:Int):Nat:=if scripts T c=[] then 2 ^ (scr T c).toNat else bits (scripts T c)
def sset (T:Tab)(c:Int):Nat:=
 let s:=basis T c
 if s &&& bits [1,2]≠0 then allB else if s=1 then 0
 else s ||| (if s &&& bits [6]≠0 then bits [61,62,63] else 0) ||| (if s &&& bits [7,8]≠0 then bits [62] else 0) ||| (if s &&& bits [9]≠0 then bits [63] else 0) ||| (if s &&& bits [10]≠0 then bits [61] else 0)
def resolve (T:Tab)(l:List Int):Nat:=l.foldl (fun s c=>s &&& sset T c) allB
def covered (T:Tab)(l:List Int)(s:Nat):Bool:=l.all (fun c=>decide (sset T c &&& s≠0))
def yR (T:Tab)(l:List Int):Bool:=[61,62,63].any (fun k=>covered T l (bits [3,k]))
def uY (T:Tab)(l:List Int):Bool:=(List.range 58).any (fun i=>decide (i+3≠4/\i+3≠5)&&covered T l (bits [3,((i+3:Nat):Int)]))
def level (T:Tab)(l:List Int):Int×Int:=
 if kE l≠0 then (0,kE l) else if l.all (fun c=>decide (c<=127)) then (1,0) else if resolve T l≠0 then (2,0) else if yR T l=true then (3,0) else if uY T l=true then (4,0) else if covered T l allB=true then (5,0) else (6,0)
def qh (T:Tab)(l:List Int):List Int:=l.flatMap (fun c=>if jW T c=true then [] else match jY T c with
 | some p=>if p=[] then [c] else p
 | none=>[c])
def xm (T:Tab)(l:List Int):List Int×Int:=
 if (oW T l).2≠0 then ([],(oW T l).2) else if kE (oW T l).1≠0 then ([],kE (oW T l).1) else if 4096<(qh T (oW T l).1).length then ([],7) else oW T (qh T (oW T l).1)
def DZ (l:List Int):Bool:=l.isEmpty||(decide (l.getD 0 0≠45)&&decide (l.getLastD 0≠45)&&(decide (l.length<4)||decide (l.getD 2 0≠45)||decide (l.getD 3 0≠45)))
def valid (T:Tab)(l:List Int):Int:=
 if kE l≠0 then kE l else if l=[] then 10 else if zY T l=false then 13 else if DZ l=false then 14 else if cat T (l.getD 0 0)=2 then 15
 else if l.any (fun c=>decide (c=46)||decide (jU T c≠1/\jU T c≠4)) then 16 else if (oq T l).2≠0 then (oq T l).2 else (context T l).2
theorem XR {T:Tab}{l:List Int}(h:valid T l=0):qG T l=(l,0):=by
 unfold valid at h;split at h
 ·rename_i h1;exact absurd h h1
 split at h
 ·cases h
 split at h
 ·cases h
 ·rename_i h1
  have h2:zY T l=true:=by simpa using h1
  unfold zY at h2;simp only[iq,dG,dA] at h2;exact Prod.ext h2.2 h2.1
theorem DV (T:Tab):∀ (l out:List Int) (i:Nat),(∀ c∈l,jU T c=1\/jU T c=4)->sD T out i l=(out++l,none)
 | [],out,i,_=>by simp[sD]
 | c::r,out,i,h=>by
  unfold sD;rw[if_pos (h c (by simp)),DV T r _ _ (fun d hd=>h d (aU _ hd))];simp
theorem Af {T:Tab}{l:List Int}(h:valid T l=0):∀ c∈l,c≠46/\(jU T c=1\/jU T c=4):=by
 unfold valid at h;split at h
 ·rename_i h1;exact absurd h h1
 split at h
 ·cases h
 split at h
 ·cases h
 split at h
 ·cases h
 split at h
 ·cases h
 split at h
 ·cases h
 ·rename_i h1
  intro c hc;simp only[dP,Bool.or_eq_true,dG,not_exists,not_and,not_or] at h1;have:=h1 c hc;omega
theorem zS {T:Tab}{l:List Int}(h:valid T l=0):kE l=0:=by
 unfold valid at h;split at h
 ·rename_i h1;exact absurd h h1
 ·rename_i h1;simpa using h1
theorem XT {T:Tab}{l:List Int}(h:valid T l=0):map T l=(l,0,0):=by
 have h1:=zS h;unfold map;rw[if_neg (by simpa using h1),DV T l [] 0 (fun c hc=>(Af h c hc).2)];have:¬4096<l.length:=by
  intro h2;unfold kE at h1;rw[if_pos h2] at h1;cases h1
 simp[this]
end Go.Proofs.YtkachcflifhgiaaGreatDoor.Gm
namespace Go.Proofs.YtkachcflifhgiaaGreatDoor
open Go.Proofs.YtkachcflifhgiaaGreatDoor.Rg (Sn)
def yx (l:List Gm.Mp):Prop:=l.Pairwise (fun p q=>p.f<q.f)
namespace Gm
def nR:List Int:=[173,183,769,776,803,837,885,945,946,947,1072,1488,1523,1576,1577,1632,1776,2381,7680,7681,7682,7683,7684,8204,8205,12539,19968,128512]
theorem xX {c:Int}(h:c∈nR):qR c=false/\kS c≠0/\128<=c/\c<=128512:=by
 have:∀ c∈nR,qR c=false/\kS c≠0/\128<=c/\c<=128512:=by decide +kernel
 exact this c h
structure zQ (lo hi:Int)(l:List Sn):Prop where
 mQ:Rg.Asc (-1) l
 pt:∀ s∈l,s.f=s.t/\s.f∈nR
 va:∀ s∈l,1<=s.v/\lo<=s.v/\s.v<=hi
 len:l.length<=28
theorem zQ.nil (lo hi:Int):zQ lo hi []:=⟨trivial,nofun,nofun,by simp⟩
theorem aaT {l:List Sn}{c:Int}(h:∀ s∈l,¬(s.f<=c/\c<=s.t)):val l c=0:=by
 unfold val Rg.val;rw[jq.2 (fun s hs=>by simpa[Rg.Ht] using h s hs)];rfl
theorem zQ.out {lo hi:Int}{l:List Sn}(h:zQ lo hi l){c:Int}(hc:c∉nR):val l c=0:=
 aaT fun s hs ⟨h1,h2⟩=>by
  obtain⟨e,hp⟩:=h.pt s hs;have:s.f=c:=by omega
  exact hc (this▸hp)
theorem aex {l:List Sn}{c:Int}:val l c=0\/∃ s∈l,s.f<=c/\c<=s.t/\val l c=s.v:=by
 unfold val Rg.val;cases h:l.find? (Rg.Ht c) with
 | none=>left;rfl
 | some s=>
  right;have h1:=List.find?_some h;simp[Rg.Ht] at h1;exact⟨s,List.mem_of_find?_eq_some h,h1.1,h1.2,rfl⟩
theorem zQ.range {lo hi:Int}{l:List Sn}(h:zQ lo hi l)(h0:0<=hi)(c:Int):0<=val l c/\val l c<=hi:=by
 rcases aex (l:=l) (c:=c) with e | ⟨s,hs,_,_,e⟩
 ·rw[e];exact⟨Int.le_refl _,h0⟩
 ·rw[e];have:=h.va s hs;omega
def qN (m:Mp):Prop:=7680<=m.f/\m.f<=7684/\∃ b,(b=97\/b=98\/(7680<=b/\b<m.f))/\(m.to=[b]\/∃ k,m.to=[b,k]/\k∈([769,776,803,837,945]:List Int))
def uS:List Mp:=[⟨48,[111]⟩,⟨109,[114,110]⟩,⟨945,[97]⟩,⟨1072,[97]⟩,⟨1632,[111,803]⟩]
structure Good (T:Tab):Prop where
 cat:zQ 0 8 T.cat
 cls:zQ 1 254 T.cls
 ku:zQ 0 5 T.ku
 jX:zQ 0 11 T.jX
 scr:zQ 0 60 T.scr
 jU:zQ 0 4 T.jU
 jW:zQ 1 1 T.jW
 ext:T.ext=[]\/T.ext=[⟨12539,[7,8]⟩]
 mapA:yx T.maps
 PV:T.maps.length<=3
 maps:∀ m∈T.maps,m.f∈nR/\Gm.jU T m.f=3/\∃ j,97<=j/\j<=99/\(m.to=[j]\/m.to=[j,46])
 alo:(T.jU.filter (fun s=>s.v==3)).length=T.maps.length
 Xr:yx T.dec
 dec:∀ m∈T.dec,qN m
 Xj:T.exc.Pairwise (·<·)
 exc:∀ c∈T.exc,∃ m∈T.dec,m.f=c
 uP:T.dec.Pairwise (fun p q=>p.to=q.to->q.f∈T.exc)
 abr:yx T.jY
 Pj:T.jY.length<=5
 jY:∀ m∈T.jY,m∈uS/\Gm.jW T m.f=false/\∀ k,m.to.getLast?=some k->Gm.jW T k=false
theorem ajN:Good t0:=
 ⟨.nil _ _,.nil _ _,.nil _ _,.nil _ _,.nil _ _,.nil _ _,.nil _ _,.inl rfl,List.Pairwise.nil,by simp[t0],nofun,rfl,List.Pairwise.nil,nofun,List.Pairwise.nil,nofun,List.Pairwise.nil,List.Pairwise.nil,by simp[t0],nofun⟩
theorem U3 {T:Tab}(h:Good T):yx T.ext:=by
 rcases h.ext with e | e<;>rw[e]
 ·exact List.Pairwise.nil
 ·exact f_ _ _
theorem LV:∀ (l:List Int) (a b:Int),l.Pairwise (·<·)->(∀ c∈l,a<=c/\c<=b)->(l.length:Int)<=max 0 (b-a+1)
 | [],a,b,_,_=>by simp;omega
 | c::r,a,b,h,hb=>by
  have h1:=iF.1 h;have h2:=hb c (by simp);have:=LV r (c+1) b h1.2 (fun d hd=>⟨by have:=h1.1 d hd;omega,(hb d (by simp[hd])).2⟩);simp only[dX];omega
theorem Good.Fz {T:Tab}(h:Good T):T.dec.length<=5:=by
 have:=LV (T.dec.map (·.f)) 7680 7684 (List.pairwise_map.2 (show T.dec.Pairwise (fun p q=>p.f<q.f) from h.Xr)) (fun c hc=>by
  obtain⟨m,hm,rfl⟩:=List.mem_map.1 hc;exact⟨(h.dec m hm).1,(h.dec m hm).2.1⟩)
 simp at this;omega
theorem Good.Lt {T:Tab}(h:Good T):T.exc.length<=5:=by
 have:=LV T.exc 7680 7684 h.Xj (fun c hc=>by
  obtain⟨m,hm,rfl⟩:=h.exc c hc;exact⟨(h.dec m hm).1,(h.dec m hm).2.1⟩)
 omega
theorem Dn {l:List Mp}{c:Int}{to:List Int}(h:pX l c=some to):∃ m∈l,m.f=c/\m.to=to:=by
 unfold pX at h;obtain⟨m,hm,rfl⟩:=Option.map_eq_some_iff.1 h;exact⟨m,List.mem_of_find?_eq_some hm,by simpa using List.find?_some hm,rfl⟩
theorem Qy {l:List Mp}{c:Int}(h:∀ m∈l,m.f≠c):pX l c=none:=by
 unfold pX;rw[jq.2 (fun m hm=>by simpa using h m hm)];rfl
theorem Good.Fv {T:Tab}(h:Good T){c:Int}(hc:c<7680\/7684<c):Gm.dec T c=none:=
 Qy fun m hm e=>by have:=h.dec m hm;unfold qN at this;omega
theorem Good.sV {T:Tab}(h:Good T){c:Int}{l:List Int}(hd:Gm.dec T c=some l):qN ⟨c,l⟩:=by
 obtain⟨m,hm,rfl,rfl⟩:=Dn hd;exact h.dec m hm
def rk (c:Int):Nat:=if 7680<=c/\c<=7684 then (c-7679).toNat else 0
theorem wL (c:Int):rk c<=5:=by unfold rk;split<;>omega
theorem qN.rk {m:Mp}(h:qN m):∀ d∈m.to,Gm.rk d<Gm.rk m.f:=by
 obtain⟨h1,h2,b,hb,ht⟩:=h;have e1:Gm.rk m.f=(m.f-7679).toNat:=if_pos ⟨h1,h2⟩;have e2:Gm.rk b<Gm.rk m.f:=by
  rw[e1];unfold Gm.rk;split<;>omega
 intro d hd;rcases ht with e | ⟨k,e,hk⟩
 ·rw[e] at hd;simp at hd;subst hd;exact e2
 ·rw[e] at hd;simp at hd;rcases hd with rfl | rfl
  ·exact e2
  ·have:∀ k∈([769,776,803,837,945]:List Int),Gm.rk k=0:=by decide
   rw[this d hk,e1];omega
theorem qN.ne {m:Mp}(h:qN m):m.to≠[]/\m.to.length<=2:=by
 obtain⟨_,_,b,_,ht⟩:=h;rcases ht with e | ⟨k,e,_⟩<;>rw[e]<;>simp
theorem qN.mF {m:Mp}(h:qN m):∀ d∈m.to,Hg.mF d=false/\yg d=false/\d≠46/\kS d≠0/\97<=d/\d<=7684:=by
 obtain⟨h1,h2,b,hb,ht⟩:=h;have key:∀ d:Int,(97<=d/\d<=945\/7680<=d/\d<=7684)->Hg.mF d=false/\yg d=false/\d≠46/\kS d≠0/\97<=d/\d<=7684:=by
  intro d hd;refine⟨by rw[Hg.xk];omega,by simp[yg];omega,by omega,?_,by omega,by omega⟩;unfold kS;rw[if_neg (by omega)];split
  ·omega
  ·split
   ·omega
   ·split<;>omega
 intro d hd;apply key;rcases ht with e | ⟨k,e,hk⟩
 ·rw[e] at hd;simp at hd;subst hd;omega
 ·rw[e] at hd;simp at hd;rcases hd with rfl | rfl
  ·omega
  ·have:∀ k∈([769,776,803,837,945]:List Int),97<=k/\k<=945:=by decide
   have:=this d hk;omega
theorem D_ {l:List Int}{f g:Int->List Int}(h:∀ d∈l,f d=g d):l.flatMap f=l.flatMap g:=by
 rw[List.flatMap_def,List.flatMap_def,List.map_congr_left h]
theorem afD {T:Tab}(h:Good T):∀ (n:Nat) (c:Int),rk c<n->∀ m,rk c<m->full T m c=full T n c:=by
 intro n;induction n with
 | zero=>intro c hc;omega
 | succ n ih=>
  intro c hc m hm;obtain⟨m,rfl⟩:∃ k,m=k+1:=⟨m-1,by omega⟩;unfold full;split
  ·rfl
  ·cases hd:Gm.dec T c with
   | none=>rfl
   | some l=>
    have hr:=(h.sV hd).rk;simp only at hr;show l.flatMap (full T m)=l.flatMap (full T n);exact D_ (fun d hdl=>ih d (by have:=hr d hdl;omega) m (by have:=hr d hdl;omega))
theorem Fg {T:Tab}{c:Int}(h:Hg.mF c=true):oV T c=Hg.dec c:=by
 show full T (5+1) c=_;unfold full;rw[if_pos h]
theorem zZ {T:Tab}{c:Int}(h:Hg.mF c=false)(hd:Gm.dec T c=none):oV T c=[c]:=by
 show full T (5+1) c=_;unfold full;rw[if_neg (by simp[h]),hd]
theorem D9 {T:Tab}(hT:Good T){c:Int}{l:List Int}(h:Hg.mF c=false)(hd:Gm.dec T c=some l):oV T c=l.flatMap (oV T):=by
 show full T (5+1) c=_;unfold full;rw[if_neg (by simp[h]),hd];have hr:=(hT.sV hd).rk;simp only at hr;have hc:=wL c;exact D_ (fun d hdl=>afD hT 6 d (by have:=wL d;omega) 5 (by have:=hr d hdl;omega))
theorem acA {T:Tab}(hT:Good T):∀ (n:Nat) (c:Int),rk c<n->(oV T c).length<=max 3 (rk c+1)/\1<=(oV T c).length/\(Hg.mF c=false->(oV T c).length<=rk c+1):=by
 intro n;induction n with
 | zero=>intro c hc;omega
 | succ n ih=>
  intro c hc;cases hs:Hg.mF c with
  | true=>
   rw[Fg hs];unfold Hg.dec;rw[if_pos hs];split<;>simp<;>omega
  | false=>
   cases hd:Gm.dec T c with
   | none=>rw[zZ hs hd];simp;omega
   | some l=>
    rw[D9 hT hs hd];have hD:=hT.sV hd;have hr:=hD.rk;have hsy:=hD.mF;obtain⟨h1,h2,b,hb,ht⟩:=hD;simp only at hr hsy ht h1 h2 hb;rcases ht with e | ⟨k,e,hk⟩
    ·subst e;have hb1:=hr b (by simp);have:=ih b (by omega);have hb2:=this.2.2 (hsy b (by simp)).1;simp only[iQ,List.flatMap_nil,List.append_nil];exact⟨by omega,this.2.1,fun _=>by omega⟩
    ·subst e;have hb1:=hr b (by simp);have:=ih b (by omega);have hb2:=this.2.2 (hsy b (by simp)).1;have hk0:rk k=0:=by
      have:∀ k∈([769,776,803,837,945]:List Int),rk k=0:=by decide
      exact this k hk
     have hk1:=hr k (by simp);have hk2:=(ih k (by omega)).2.2 (hsy k (by simp)).1;simp only[iQ,List.flatMap_nil,List.append_nil,List.length_append];exact⟨by omega,by omega,fun _=>by omega⟩
theorem ZC {T:Tab}(hT:Good T)(c:Int):(oV T c).length<=6/\1<=(oV T c).length:=by
 have:=acA hT 6 c (by have:=wL c;omega);have:=wL c;omega
end Gm
end Go.Proofs.YtkachcflifhgiaaGreatDoor
namespace Go.Proofs.YtkachcflifhgiaaGreatDoor.Kp
def pick (v n:Int):Int:=v%18446744073709551616%n
theorem KX (v n:Int)(h:1<=n):0<=pick v n:=by unfold pick;exact Int.emod_nonneg _ (by omega)
theorem KY (v n:Int)(h:1<=n):pick v n<n:=by unfold pick;exact Int.emod_lt_of_pos _ (by omega)
def nx (xs:List Int)(i:Nat)(n:Int):Int:=match xs[i]? with | some v=>pick v n | none=>0
def ad (xs:List Int)(i:Nat):Nat:=if i<xs.length then i+1 else i
theorem ajE (xs:List Int)(i:Nat)(n:Int)(h:1<=n):0<=nx xs i n:=by
 unfold nx;split
 ·exact KX _ _ h
 ·omega
theorem ajF (xs:List Int)(i:Nat)(n:Int)(h:1<=n):nx xs i n<n:=by
 unfold nx;split
 ·exact KY _ _ h
 ·omega
theorem agT (xs:List Int)(i:Nat)(n:Int)(h:¬i<xs.length):nx xs i n=0:=by
 unfold nx;rw[List.getElem?_eq_none (by omega)]
end Go.Proofs.YtkachcflifhgiaaGreatDoor.Kp
namespace Go.Proofs.YtkachcflifhgiaaGreatDoor.Sp
def step (st:List (List Int)×List Int)(c:Int):List (List Int)×List Int:=if c=46 then (st.1++[st.2],[]) else (st.1,st.2++[c])
def st (xs:List Int):List (List Int)×List Int:=xs.foldl step ([],[])
def labels (xs:List Int):List (List Int):=(st xs).1++[(st xs).2]
theorem st_snoc (xs:List Int)(c:Int):st (xs++[c])=step (st xs) c:=by simp[st]
theorem agw (xs:List Int)(c:Int)(h:c=46):(st (xs++[c])).1=(st xs).1++[(st xs).2]/\(st (xs++[c])).2=[]:=by
 rw[st_snoc];unfold step;rw[if_pos h];exact⟨rfl,rfl⟩
theorem aeF (xs:List Int)(c:Int)(h:c≠46):(st (xs++[c])).1=(st xs).1/\(st (xs++[c])).2=(st xs).2++[c]:=by
 rw[st_snoc];unfold step;rw[if_neg h];exact⟨rfl,rfl⟩
def join:List (List Int)->List Int
 | []=>[]
 | x::r=>x++r.flatMap (fun y=>46::y)
theorem Zf (l:List (List Int))(x:List Int):join (l++[x])=join l++(if l=[] then [] else [46])++x:=by
 cases l with
 | nil=>simp[join]
 | cons a r=>simp[join]
def dots (xs:List Int):Nat:=xs.countP (·=46)
theorem G_ (xs:List Int):∀ (d:List (List Int)) (l:List Int),(xs.foldl step (d,l)).1.length=d.length+dots xs:=by
 induction xs with
 | nil=>intro d l;simp[dots]
 | cons c xs ih=>
  intro d l;rw[List.foldl_cons];by_cases hc:c=46
  ·have:step (d,l) c=(d++[l],[]):=by unfold step;rw[if_pos hc]
   rw[this,ih];simp[dots,hc];omega
  ·have:step (d,l) c=(d,l++[c]):=by unfold step;rw[if_neg hc]
   rw[this,ih];simp[dots,hc]
theorem Eo (xs:List Int):(labels xs).length=1+dots xs:=by
 have:=G_ xs [] [];simp[labels,st,this];omega
theorem LC (xs:List Int):dots xs<=xs.length:=List.countP_le_length
theorem st_len (xs:List Int):(st xs).1.length<=xs.length:=by
 have:=G_ xs [] [];have h2:=LC xs;unfold st;rw[this];simpa using h2
theorem Y3 (xs:List Int):∀ (d:List (List Int)) (l:List Int),(xs.foldl step (d,l)).2.length<=l.length+xs.length:=by
 induction xs with
 | nil=>intro d l;simp
 | cons a xs ih=>
  intro d l;rw[List.foldl_cons];by_cases ha:a=46
  ·have e:step (d,l) a=(d++[l],[]):=by unfold step;rw[if_pos ha]
   rw[e];refine Nat.le_trans (ih _ _) ?_;simp;omega
  ·have e:step (d,l) a=(d,l++[a]):=by unfold step;rw[if_neg ha]
   rw[e];refine Nat.le_trans (ih _ _) ?_;simp;omega
theorem aeE (xs:List Int):(st xs).2.length<=xs.length:=by
 have:=Y3 xs [] [];simpa[st] using this
theorem Lh (l:List (List Int))(k:Nat)(x:List Int)(h:l[k]?=some x):join (l.take (k+1))=join (l.take k)++(if k=0 then [] else [46])++x:=by
 obtain⟨hk,rfl⟩:=List.getElem?_eq_some_iff.1 h;rw[List.take_succ_eq_append_getElem hk,Zf];by_cases h0:k=0
 ·subst h0;simp
 ·have:¬l.take k=[]:=by
   intro e;have h1:=congrArg List.length e;rw[List.length_take,List.length_nil] at h1;omega
  rw[if_neg this,if_neg h0]
def total (l:List (List Int)):Nat:=(l.map (fun x=>x.length+1)).sum
theorem P8 (l:List (List Int)):(join l).length<=total l:=by
 cases l with
 | nil=>simp[join]
 | cons a r=>
  have:∀ r:List (List Int),(r.flatMap (fun y=>(46:Int)::y)).length=total r:=by
   intro r;induction r with
   | nil=>rfl
   | cons b r ih=>simp[total] at ih ⊢;omega
  simp[join,this,total]
theorem VL (l:List (List Int))(k:Nat):total (l.take k)<=total l:=by
 induction l generalizing k with
 | nil=>simp
 | cons a r ih=>
  cases k with
  | zero=>simp[total]
  | succ k=>have:=ih k;simp[total] at this ⊢;omega
def bad:List ByteArray->Nat->Option (Int×Int)
 | [],_=>none
 | s::r,i=>if s.size=0 then some (i,10) else if 63<s.size then some (i,11) else bad r (i+1)
def bytes (l:List ByteArray):Nat:=(l.map ByteArray.size).sum
def chk (l:List ByteArray):Int×Int:=
 if l=[] then (0,10) else match bad l 0 with
  | some r=>r
  | none=>if 127<l.length\/253<l.length-1+bytes l then (0,11) else (0,0)
def fine (l:List ByteArray)(k:Nat):Prop:=∀ (j:Nat) (s:ByteArray),j<k->l[j]?=some s->s.size≠0/\s.size<=63
theorem Q8 (l:List ByteArray):∀ i,fine l l.length->bad l i=none:=by
 induction l with
 | nil=>intro i _;rfl
 | cons s r ih=>
  intro i h;have h0:=h 0 s (by simp) rfl;unfold bad;rw[if_neg h0.1,if_neg (by omega)];exact ih (i+1) (fun j t hj ht=>h (j+1) t (by simpa using hj) (by simpa using ht))
theorem ah1 (l:List ByteArray):∀ (i k:Nat) (s:ByteArray) (e:Int),fine l k->l[k]?=some s->((s.size=0/\e=10)\/(63<s.size/\e=11))->bad l i=some (((i+k:Nat):Int),e):=by
 induction l with
 | nil=>intro i k s e _ h;simp at h
 | cons a r ih=>
  intro i k s e hf hk he;cases k with
  | zero=>
   have ha:a=s:=by simpa using hk
   subst ha;unfold bad;rcases he with ⟨h,rfl⟩ | ⟨h,rfl⟩
   ·rw[if_pos h];rfl
   ·rw[if_neg (by omega),if_pos h];rfl
  | succ k=>
   have h0:=hf 0 a (by omega) rfl;unfold bad;rw[if_neg h0.1,if_neg (by omega)];rw[ih (i+1) k s e (fun j t hj ht=>hf (j+1) t (by omega) (by simpa using ht)) (by simpa using hk) he];congr 2;omega
theorem Vd (l:List ByteArray)(k:Nat)(s:ByteArray)(e:Int)(hf:fine l k)(hk:l[k]?=some s)(he:(s.size=0/\e=10)\/(63<s.size/\e=11)):chk l=((k:Int),e):=by
 have hne:l≠[]:=by rintro rfl;simp at hk
 unfold chk;rw[if_neg hne,ah1 l 0 k s e hf hk he];simp
theorem QV (l:List ByteArray)(hne:l≠[])(hf:fine l l.length)(h:127<l.length\/253<l.length-1+bytes l):chk l=(0,11):=by
 unfold chk;rw[if_neg hne,Q8 l 0 hf];simp[h]
theorem ahU (l:List ByteArray)(hne:l≠[])(hf:fine l l.length)(h:¬(127<l.length\/253<l.length-1+bytes l)):chk l=(0,0):=by
 unfold chk;rw[if_neg hne,Q8 l 0 hf];simp[h]
theorem J6 (l:List ByteArray)(k:Nat)(s:ByteArray)(h:l[k]?=some s):bytes (l.take (k+1))=bytes (l.take k)+s.size:=by
 obtain⟨hk,rfl⟩:=List.getElem?_eq_some_iff.1 h;unfold bytes;rw[List.take_succ_eq_append_getElem hk,List.map_append,List.sum_append];simp
theorem ac4 (l:List ByteArray)(hf:fine l l.length)(k:Nat):bytes (l.take k)<=63*k:=by
 induction k with
 | zero=>simp[bytes]
 | succ k ih=>
  cases hk:l[k]? with
  | none=>
   have:l.length<=k:=by simpa using hk
   rw[List.take_of_length_le (by omega)];rw[List.take_of_length_le this] at ih;omega
  | some s=>
   have:=hf k s ((List.getElem?_eq_some_iff.1 hk).1) hk;rw[J6 l k s hk];omega
theorem ZJ (l:List ByteArray)(k:Nat)(s:ByteArray)(hf:fine l k)(hk:l[k]?=some s)(h0:s.size≠0)(h1:s.size<=63):fine l (k+1):=by
 intro j t hj ht;by_cases h:j=k
 ·subst h;rw[hk] at ht;injection ht with ht;subst ht;exact⟨h0,h1⟩
 ·exact hf j t (by omega) ht
end Go.Proofs.YtkachcflifhgiaaGreatDoor.Sp
namespace Go.Proofs.YtkachcflifhgiaaGreatDoor
theorem dU:type_of% @List.length_set:=@List.length_set
structure kU where
 u:Bool
 k:ByteArray
def kU.none:kU:=⟨false,ByteArray.empty⟩
namespace Sl
def gt (S:List kU)(i:Nat):kU:=S.getD i kU.none
theorem JP {S:List kU}{i j:Nat}{s:kU}(hi:i<S.length):gt (S.set i s) j=if i=j then s else gt S j:=by
 unfold gt;rw[List.getD_eq_getElem?_getD,List.getElem?_set,List.getD_eq_getElem?_getD];by_cases h:i=j
 ·subst h;simp[hi]
 ·simp[h]
theorem ajM {S:List kU}{i:Nat}(hi:i<S.length):S[i]?=some (gt S i):=by
 unfold gt;rw[List.getD_eq_getElem?_getD,List.getElem?_eq_getElem hi];rfl
theorem adX {S:List kU}{i:Nat}{s:kU}(h:S[i]?=some s):gt S i=s/\i<S.length:=by
 obtain⟨h1,rfl⟩:=List.getElem?_eq_some_iff.1 h;exact⟨by unfold gt;rw[List.getD_eq_getElem?_getD,h];rfl,h1⟩
def ds (n a b:Nat):Nat:=if a<=b then b-a else b+n-a
def sc (n i:Nat):Nat:=if i+1=n then 0 else i+1
theorem VZ {n i:Nat}(h:i<n):sc n i<n:=by unfold sc;split<;>omega
def probe (S:List kU)(key:ByteArray):Nat->Nat->Nat×Bool
 | 0,i=>(i,false)
 | f+1,i=>if (gt S i).u=true then (if (gt S i).k=key then (i,true) else probe S key f (sc S.length i)) else (i,false)
def find (hm:ByteArray->Nat)(S:List kU)(key:ByteArray):Nat×Bool:=probe S key (S.length+1) (hm key)
theorem GK {n a z:Nat}(ha:a<n)(hz:z<n)(hne:a≠z):ds n (sc n a) z+1=ds n a z:=by
 unfold ds sc;split<;>split<;>split<;>omega
theorem Xp {n a b:Nat}(ha:a<n)(hb:b<n):ds n a b<n:=by unfold ds;split<;>omega
theorem Dp (n a:Nat):ds n a a=0:=by simp[ds]
theorem ahL {n a b c:Nat}(ha:a<n)(hb:b<n)(hc:c<n)(h:ds n a b=ds n a c):b=c:=by
 unfold ds at h;split at h<;>split at h<;>omega
structure WF (hm:ByteArray->Nat)(n:Nat)(S:List kU):Prop where
 len:S.length=n
 hom:∀ k,hm k<n
 path:∀ i j,i<n->j<n->(gt S i).u=true->ds n (hm (gt S i).k) j<ds n (hm (gt S i).k) i->(gt S j).u=true
 uniq:∀ i j,i<n->j<n->(gt S i).u=true->(gt S j).u=true->(gt S i).k=(gt S j).k->i=j
 free:∃ z,z<n/\(gt S z).u=false
section
variable {hm:ByteArray->Nat} {n:Nat} {S:List kU} {key:ByteArray}
theorem YB:∀ (f i a:Nat),a<n->i<n->S.length=n->ds n a i<f->(gt S i).u=true->(gt S i).k=key->(∀ j,j<n->ds n a j<ds n a i->(gt S j).u=true/\(gt S j).k≠key)->probe S key f a=(i,true):=by
 intro f;induction f with
 | zero=>intro i a _ _ _ h;omega
 | succ f ih=>
  intro i a ha hi hl hf hu hk hp;unfold probe;by_cases e:a=i
  ·subst e;rw[if_pos hu,if_pos hk]
  ·have h0:0<ds n a i:=by
    have:ds n a i≠0:=fun h=>e (ahL ha ha hi (by rw[Dp,h]));omega
   obtain⟨h1,h2⟩:=hp a ha (by rw[Dp];exact h0);rw[if_pos h1,if_neg h2,hl];have hs:=GK ha hi e;refine ih i _ (VZ ha) hi hl (by omega) hu hk (fun j hj hd=>hp j hj ?_);by_cases ej:a=j
   ·subst ej;rw[Dp];exact h0
   ·have:=GK ha hj ej;omega
theorem Ea (h:WF hm n S){i:Nat}(hi:i<n)(hu:(gt S i).u=true)(hk:(gt S i).k=key):find hm S key=(i,true):=by
 have hh:=h.hom key;refine YB (n:=n) _ i _ hh hi h.len (by rw[h.len];have:=Xp hh hi;omega) hu hk (fun j hj hd=>?_);have h1:=h.path i j hi hj hu (by rw[hk];exact hd);refine⟨h1,fun e=>?_⟩;have:=h.uniq i j hi hj hu h1 (by rw[hk,e]);subst this;omega
theorem Ws:∀ (f a z:Nat),a<n->z<n->S.length=n->(gt S z).u=false->ds n a z<f->(∀ i,i<n->(gt S i).u=true->(gt S i).k≠key) ->
  ∃ j,j<n/\probe S key f a=(j,false)/\(gt S j).u=false/\∀ t,t<n->ds n a t<ds n a j->(gt S t).u=true:=by
 intro f;induction f with
 | zero=>intro a z _ _ _ _ h;omega
 | succ f ih=>
  intro a z ha hz hl hf hd hno;unfold probe;cases hu:(gt S a).u with
  | false=>exact⟨a,ha,by simp,hu,fun t _ ht=>by rw[Dp] at ht;omega⟩
  | true=>
   rw[if_pos rfl,if_neg (hno a ha hu),hl];have e:a≠z:=by rintro rfl;rw[hu] at hf;cases hf
   have:=GK ha hz e;obtain⟨j,h1,h2,h3,h4⟩:=ih _ z (VZ ha) hz hl hf (by omega) hno;refine⟨j,h1,h2,h3,fun t ht hd=>?_⟩;by_cases et:a=t
   ·subst et;exact hu
   ·have ej:a≠j:=by rintro rfl;rw[Dp] at hd;omega
    have:=GK ha ht et;have:=GK ha h1 ej;exact h4 t ht (by omega)
theorem Na (h:WF hm n S)(hno:∀ i,i<n->(gt S i).u=true->(gt S i).k≠key) :
  ∃ j,j<n/\find hm S key=(j,false)/\(gt S j).u=false/\∀ t,t<n->ds n (hm key) t<ds n (hm key) j->(gt S t).u=true:=by
 obtain⟨z,hz,hf⟩:=h.free;exact Ws _ _ z (h.hom key) hz h.len hf (by rw[h.len];have:=Xp (h.hom key) hz;omega) hno
theorem xy (h:WF hm n S)(key:ByteArray) :
  (∃ i,i<n/\find hm S key=(i,true)/\(gt S i).u=true/\(gt S i).k=key)\/(∃ j,j<n/\find hm S key=(j,false)/\(gt S j).u=false/\(∀ i,i<n->(gt S i).u=true->(gt S i).k≠key)/\∀ t,t<n->ds n (hm key) t<ds n (hm key) j->(gt S t).u=true):=by
 by_cases hk:∃ i,i<n/\(gt S i).u=true/\(gt S i).k=key
 ·obtain⟨i,h1,h2,h3⟩:=hk;exact .inl ⟨i,h1,Ea h h1 h2 h3,h2,h3⟩
 ·have hno:∀ i,i<n->(gt S i).u=true->(gt S i).k≠key:=fun i h1 h2 h3=>hk ⟨i,h1,h2,h3⟩;obtain⟨j,h1,h2,h3,h4⟩:=Na h hno;exact .inr ⟨j,h1,h2,h3,hno,h4⟩
def cnt (S:List kU):Nat:=S.countP (·.u)
theorem LH:∀ {S:List kU} {i:Nat} (s:kU),i<S.length->cnt (S.set i s)+(if (gt S i).u=true then 1 else 0)=cnt S+(if s.u=true then 1 else 0)
 | [],i,s,h=>by simp at h
 | a::r,0,s,_=>by
  unfold cnt gt;simp only[List.set_cons_zero,List.countP_cons,List.getD_cons_zero];omega
 | a::r,i+1,s,h=>by
  have:=LH (S:=r) (i:=i) s (by simpa using h);unfold cnt gt at *;simp only[List.set_cons_succ,List.countP_cons,List.getD_cons_succ];omega
theorem TC (h:cnt S<S.length):∃ z,z<S.length/\(gt S z).u=false:=by
 by_cases hc:∃ z,z<S.length/\(gt S z).u=false
 ·exact hc
 ·exfalso;have:cnt S=S.length:=by
   unfold cnt;rw[List.countP_eq_length];intro s hs;obtain⟨i,hi⟩:=List.mem_iff_getElem?.1 hs;obtain⟨h1,h2⟩:=adX hi;cases hu:s.u with
   | true=>rfl
   | false=>exact absurd ⟨i,h2,by rw[h1];exact hu⟩ hc
  omega
theorem XO (h:WF hm n S){j:Nat}(hj:j<n)(hu:(gt S j).u=false)(hno:∀ i,i<n->(gt S i).u=true->(gt S i).k≠key)(hp:∀ t,t<n->ds n (hm key) t<ds n (hm key) j->(gt S t).u=true)
  (hc:cnt S+2<=n):WF hm n (S.set j ⟨true,key⟩):=by
 have hjl:j<S.length:=by rw[h.len];exact hj
 have hg:=fun t=>JP (S:=S) (j:=t) (s:=⟨true,key⟩) hjl;refine⟨by rw[dU];exact h.len,h.hom,fun a b ha hb MX hd=>?_,fun a b ha hb MX hub hk=>?_,?_⟩
 ·rw[hg b];split
  ·rfl
  ·rename_i hne
   rw[hg a] at MX hd;split at MX
   ·rename_i e
    subst e;rw[if_pos rfl] at hd;exact hp b hb hd
   ·rename_i e
    rw[if_neg e] at hd;exact h.path a b ha hb MX hd
 ·rw[hg a] at MX hk;rw[hg b] at hub hk;by_cases ea:j=a
  ·subst ea;by_cases eb:j=b
   ·exact eb
   ·rw[if_neg eb] at hub hk;rw[if_pos rfl] at hk;exact absurd hk.symm (hno b hb hub)
  ·rw[if_neg ea] at MX hk;by_cases eb:j=b
   ·subst eb;rw[if_pos rfl] at hk;exact absurd hk (hno a ha MX)
   ·rw[if_neg eb] at hub hk;exact h.uniq a b ha hb MX hub hk
 ·have:=LH (S:=S) (i:=j) ⟨true,key⟩ hjl;rw[hu] at this;have hl:=h.len;obtain⟨z,h1,h2⟩:=TC (S:=S.set j ⟨true,key⟩) (by rw[dU];simp at this;omega);exact⟨z,by rw[dU] at h1;omega,h2⟩
end
def Has {α:Type}(n:Nat)(S:List kU)(R:List α)(k:ByteArray)(r:α):Prop:=∃ i,i<n/\(gt S i).u=true/\(gt S i).k=k/\R[i]?=some r
section
variable {α:Type} {hm:ByteArray->Nat} {n z gap a:Nat} {S:List kU} {R:List α}
def mv (R:List α)(gap a:Nat):List α:=match R[a]? with | some r=>R.set gap r | none=>R
theorem Has.inj (h:WF hm n S){k:ByteArray}{r r':α}(h1:Has n S R k r)(h2:Has n S R k r'):r=r':=by
 obtain⟨i,hi,hui,hk,hr⟩:=h1;obtain⟨j,hj,huj,hk',hr'⟩:=h2;have:=h.uniq i j hi hj hui huj (by rw[hk,hk']);subst this;rw[hr] at hr';injection hr'
end
end Sl
structure Nm where
 a:ByteArray
 u:ByteArray
 k:ByteArray
structure Rc where
 st:Int
 ow:Int
 nm:ByteArray
 dl:Int
def Rc.none:Rc:=⟨0,0,ByteArray.empty,0⟩
structure Rs where
 err:Int
 at_:Int
 nm:ByteArray
 rc:Rc
 tk:Int
def Rs.zero:Rs:=⟨0,0,ByteArray.empty,Rc.none,0⟩
def Rs.fine:Rs:=⟨0,-1,ByteArray.empty,Rc.none,0⟩
def Rc.live (r:Rc)(now:Int):Bool:=decide (r.st=2\/r.st=1/\now<r.dl)
namespace Dm
def tick (v:Int):Bool:=decide (0<=v/\v<=1073741824)
def advance (now n:Int):Int:=if tick now=false then 0 else if n<0 then now else if 1073741824-now<n then 1073741824 else now+n
def deadline (now ttl:Int):Int×Int:=if tick now=false\/ttl<1\/1073741824<ttl then (0,3) else if 1073741824-now<ttl then (0,8) else (now+ttl,0)
def owned (r:Rc)(state client now:Int):Int:=if r.live now=false then 23 else if r.ow≠client then 25 else if r.st≠state then 26 else 0
def test (r:Rc)(op client now:Int):Int:=
 if op=1 then (if r.live now=true then 24 else 0) else if op=2\/op=3\/op=4 then owned r 1 client now else if op=5 then owned r 2 client now
 else if op=6 then (if r.st=0 then 23 else if r.live now=true then 26 else 0) else if op=7 then 0 else 1
def grows (r:Rc)(op:Int):Int:=if op=1 then (if r.st=0 then 1 else 0) else if op=4\/op=5\/op=6 then (if r.st=0 then 0 else -1) else 0
end Dm
namespace Gm
def tK (c:Int):Prop:=(97<=c/\c<=122)\/(48<=c/\c<=57)\/c=45
theorem tK.bd {c:Int}(h:tK c):45<=c/\c<=122:=by unfold tK at h;omega
theorem TZ (T:Tab){c:Int}(h:0<=c/\c<=127):jU T c=(kZ c).jU:=by
 unfold jU pick;have h1:kS c=1:=by unfold kS;rw[if_neg (by omega),if_pos h.2]
 have h2:qR c=true:=by unfold qR;simp[h.1,h.2]
 rw[h1,if_neg (by omega),h2,if_pos rfl]
theorem tK.jU {c:Int}(h:tK c)(T:Tab):Gm.jU T c=1:=by
 rw[TZ T (by have:=h.bd;omega)];unfold kZ;rcases h with h | h | h
 ·rw[if_pos h]
 ·rw[if_neg (by omega),if_neg (by omega),if_pos h]
 ·rw[if_neg (by omega),if_neg (by omega),if_neg (by omega),if_pos h]
theorem ag2 {T:Tab}{c:Int}(h:0<=c/\c<=127)(hs:Gm.jU T c=1\/Gm.jU T c=4)(hd:c≠46):tK c:=by
 rw[TZ T h] at hs;unfold tK;by_cases h1:97<=c/\c<=122
 ·exact .inl h1
 ·by_cases h2:48<=c/\c<=57
  ·exact .inr (.inl h2)
  ·by_cases h3:c=45
   ·exact .inr (.inr h3)
   ·exfalso;unfold kZ at hs;rw[if_neg h1] at hs;by_cases h4:65<=c/\c<=90
    ·rw[if_pos h4] at hs;simp at hs
    ·rw[if_neg h4,if_neg h2,if_neg h3,if_neg hd] at hs;by_cases h5:c=32
     ·rw[if_pos h5] at hs;simp at hs
     ·rw[if_neg h5] at hs;by_cases h6:c<32\/c=127
      ·rw[if_pos h6] at hs;simp at hs
      ·rw[if_neg h6,if_pos (by omega)] at hs;simp at hs
theorem Oy {c:Int}(h:0<=c/\c<=127):¬kS c=0:=by unfold kS;rw[if_neg (by omega),if_pos h.2];omega
theorem ET {l:List Int}(h:kE l=0):l.length<=4096/\∀ c∈l,¬kS c=0:=by
 unfold kE at h;split at h
 ·cases h
 ·split at h
  ·cases h
  ·rename_i h1 h2
   refine⟨by omega,fun c hc=>?_⟩;simp only[dP,dA,not_exists,not_and] at h2;exact h2 c hc
theorem YG {l:List Int}(h1:l.length<=4096)(h2:∀ c∈l,¬kS c=0):kE l=0:=by
 unfold kE;rw[if_neg (by omega),if_neg];simp only[dP,dA,not_exists,not_and];exact h2
theorem P6 {l:List Int}(hl:l.length<=4096)(h:∀ c∈l,tK c):kE l=0:=YG hl (fun c hc=>Oy (by have:=(h c hc).bd;omega))
theorem UH {T:Tab}(hT:Good T){c:Int}(h:tK c):cls T c=0:=hT.cls.out (fun hm=>by have:=xX hm;have:=h.bd;omega)
theorem abQ {T:Tab}(hT:Good T){c:Int}(h:tK c):oV T c=[c]:=by
 have:=h.bd;exact zZ ((Hg.xk c).2 (by omega)) (hT.Fv (by omega))
theorem L_ (T:Tab):∀ (l r:List Int),(∀ c∈l,cls T c=0)->l.foldl (sO T) r=l.reverse++r
 | [],r,_=>rfl
 | c::l,r,h=>by
  rw[gZ,show sO T r c=c::r from if_pos (h c (by simp)),L_ T l (c::r) (fun d hd=>h d (aU _ hd))];simp
theorem Tu {T:Tab}(hT:Good T){l:List Int}(h:∀ c∈l,tK c):n_ T l=l:=by
 have e:l.flatMap (oV T)=l:=by
  rw[D_ (f:=oV T) (g:=fun c=>[c]) (fun c hc=>abQ hT (h c hc))];induction l with
  | nil=>rfl
  | cons a r ih=>simp
 unfold n_ sort;rw[e,L_ T l [] (fun c hc=>UH hT (h c hc))];simp
theorem abP {T:Tab}(hT:Good T)(a:Int){b:Int}(h:tK b):pair T a b=none:=by
 have hb:=h.bd;have h1:Hg.sG a b=false:=by
  have k2:(Hg.kind b==2)=false:=by
   have:Hg.kind b=0:=by
    unfold Hg.kind;rw[if_neg (by rw[(Hg.xk b).2 (by omega)];simp),if_neg (by omega),if_neg (by omega),if_neg (by omega)]
   rw[this];rfl
  have k3:(Hg.kind b==3)=false:=by
   have:Hg.kind b=0:=by
    unfold Hg.kind;rw[if_neg (by rw[(Hg.xk b).2 (by omega)];simp),if_neg (by omega),if_neg (by omega),if_neg (by omega)]
   rw[this];rfl
  unfold Hg.sG Hg.lv Hg.JD;rw[k2,k3];simp
 unfold pair;rw[if_neg (by simp[h1])];unfold zX;rw[jq.2]
 ·rfl
 ·intro m hm;have hD:=hT.dec m (List.mem_reverse.1 hm);obtain⟨_,_,x,_,ht⟩:=hD;simp only[iq,dA,not_and];intro _ e;rcases ht with e2 | ⟨k,e2,hk⟩
  ·rw[e2] at e;simp at e
  ·rw[e2] at e;simp at e;have:∀ k∈([769,776,803,837,945]:List Int),769<=k:=by decide
   have:=this k hk;omega
theorem G8 {T:Tab}(hT:Good T):∀ (l:List Int) (s:CS),(∀ c∈l,tK c)->(s.st=none\/∃ p,s.st=some p/\p+1=s.out.length)->(l.foldl (sW T) s).out=s.out++l
 | [],s,_,_=>by simp
 | c::l,s,h,hs=>by
  have hc:=h c (by simp);have h0:cls T c=0:=UH hT hc;have e:sW T s c=⟨s.out++[c],some s.out.length⟩:=by
   have e1:qc T s c=⟨s.out++[c],some s.out.length⟩:=by unfold qc;rw[if_pos h0]
   rcases hs with hs | ⟨p,hs,hp⟩
   ·unfold sW blocked;rw[hs];exact e1
   ·have hb:blocked T s c=false:=by
     unfold blocked;rw[hs];show (if p+1<s.out.length then _ else false)=false;rw[if_neg (by omega)]
    unfold sW;rw[hb,if_neg (by simp),hs];show (match pair T (s.out.getD p 0) c with | none=>qc T s c | some x=>⟨s.out.set p x,some p⟩)=_;rw[abP hT _ hc];exact e1
  rw[gZ,e,G8 hT l _ (fun d hd=>h d (aU _ hd)) (.inr ⟨s.out.length,rfl,by simp⟩)];simp
theorem afm {T:Tab}(hT:Good T){l:List Int}(hl:l.length<=4096)(h:∀ c∈l,tK c):qG T l=(l,0):=by
 have h1:oW T l=(l,0):=by
  unfold oW;rw[if_neg (by rw[P6 hl h];simp),Tu hT h,if_neg (by omega)]
 unfold qG;rw[h1,if_neg (by simp)];show (oM T l,(0:Int))=(l,0);unfold oM;rw[G8 hT l _ h (.inl rfl)];rfl
theorem afn {T:Tab}{l:List Int}(hl:l.length<=4096)(h:∀ c∈l,tK c):map T l=(l,0,0):=by
 unfold map;rw[if_neg (by rw[P6 hl h];simp),DV T l [] 0 (fun c hc=>.inl ((h c hc).jU T))];simp;omega
theorem WT {l:List Int}(h:∀ c∈l,c≠46):Sp.labels l=[l]:=by
 have:∀ (l x:List Int),(∀ c∈l,c≠46)->l.foldl Sp.step ([],x)=([],x++l):=by
  intro l;induction l with
  | nil=>intro x _;simp
  | cons c r ih=>
   intro x h;rw[gZ,show Sp.step ([],x) c=([],x++[c]) from if_neg (h c (by simp)),ih _ (fun d hd=>h d (aU _ hd))];simp
 unfold Sp.labels Sp.st;rw[this l [] h];simp
end Gm
theorem Ut.Nc:∀ (L:List UInt8),(∀ b∈L,b.toNat<128)->Ut.nX (Pn.nums L)=L
 | [],_=>rfl
 | b::L,h=>by
  have hb:=h b (by simp);have e1:Ut.enc1 ((b.toNat:Int))=[b]:=by
   unfold Ut.enc1;simp only[bU];rw[if_pos (by omega)];unfold Ut.u8;simp
  have e2:=Ut.Nc L (fun d hd=>h d (aU _ hd));unfold Ut.nX Pn.nums at *;rw[List.map_cons,iQ,e1,e2];rfl
theorem Ut.Eb:∀ (l:List Int),(∀ c∈l,0<=c/\c<=127)->Ut.nX l=l.map Pn.byte/\Pn.nums (l.map Pn.byte)=l
 | [],_=>⟨rfl,rfl⟩
 | c::l,h=>by
  have hc:=h c (by simp);obtain⟨e2,e3⟩:=Ut.Eb l (fun d hd=>h d (aU _ hd));have e1:Ut.enc1 c=[Pn.byte c]:=by
   unfold Ut.enc1;simp only;rw[if_pos hc.2];rfl
  constructor
  ·unfold Ut.nX at *;rw[iQ,e1,e2];rfl
  ·unfold Pn.nums at *;rw[List.map_cons,List.map_cons,e3,Pn.wR c hc.1 (by omega)]
theorem Pn.afS {l:List Int}(hs:∀ c∈l,c<128->Gm.tK c):∀ b∈Pn.enc l,Gm.tK (b.toNat:Int):=by
 intro b hb;unfold Pn.enc Pn.front at hb;rw[List.mem_append,List.mem_append] at hb;rcases hb with (hb | hb) | hb
 ·obtain⟨c,h1,rfl⟩:=eG.1 hb;unfold Pn.basics at h1;rw[List.mem_filter] at h1;have h2:=of_decide_eq_true h1.2;have h5:=hs c h1.1 h2;have h6:=h5.bd;rw[Pn.wR c (by omega) (by omega)];exact h5
 ·split at hb
  ·cases hb
  ·rw[List.mem_singleton.1 hb];exact .inr (.inr rfl)
 ·obtain⟨d,h1,rfl⟩:=eG.1 hb;obtain⟨h2,h3⟩:=Pn.VM l l.length 128 0 (Pn.st0 l) (Pn.left_le _ _ _) (Pn.inv_start l) d h1;have:=Pn.U8 d h2 h3;unfold Gm.tK;omega
theorem UF {L:List UInt8}(h:∀ b∈L,Gm.tK (b.toNat:Int)):Al.low L=L:=by
 unfold Al.low;conv=>rhs;rw[<-List.map_id L]
 exact List.map_congr_left (fun b hb=>Al.UI (by have:=h b hb;unfold Gm.tK at this;omega))
theorem aal {L:List UInt8}(h:∀ b∈L,Gm.tK (b.toNat:Int)):Pn.ascii L=true:=by
 unfold Pn.ascii;rw[b_];intro b hb;have:=(h b hb).bd;simp;omega
theorem Al.Zj (L:List UInt8):Al.wW ([120,110,45,45]++L)=true:=by
 unfold Al.wW;simp[Al.low];decide
theorem WV {T:Gm.Tab}{l:List Int}{A:List UInt8}(hv:Gm.valid T l=0)(hl:Al.lab l=(A,0)) :
  l.length<=256/\0<l.length/\(∀ b∈A,Gm.tK (b.toNat:Int))/\A.length<=63/\0<A.length /\
   ((Al.ascii l=true/\A=Ut.nX l/\Pn.nums A=l)\/(Al.ascii l=false/\Al.wW A=true/\Al.pts A=(l,0)/\Al.ascii (Pn.nums A)=true)):=by
 have hst:=Gm.Af hv;have hof:=(Gm.ET (Gm.zS hv)).2;have ahq:∀ c∈l,c<128->Gm.tK c:=fun c hc h=>Gm.ag2 (T:=T) (by have:=Ut.wO (hof c hc);omega) (hst c hc).2 (hst c hc).1;by_cases h0:l.length=0
 ·rw[Al.UK h0] at hl;simp at hl
 cases ha:Al.ascii l
 ·by_cases he:(Pn.nV l).2=0
  ·rw[Al.II h0 ha he] at hl;by_cases h63:63<4+(Pn.nV l).1.length
   ·rw[if_pos h63] at hl;simp at hl
   ·rw[if_neg h63] at hl;have hA:A=[120,110,45,45]++(Pn.nV l).1:=by injection hl with e _;exact e.symm
    have hlab:Al.lab l=(A,0):=by rw[Al.II h0 ha he,if_neg h63,hA]
    have h256:l.length<=256:=by
     apply Classical.byContradiction;intro hn;unfold Pn.nV at he;rw[if_pos (by omega)] at he;simp at he
    have hsc:l.all Pn.scalar=true:=by
     rw[b_];intro c hc;unfold Pn.scalar;simp only[dG];exact Ut.wO (hof c hc)
    have hen:(Pn.nV l).1=Pn.enc l:=by unfold Pn.nV;rw[if_neg (by omega),if_pos hsc]
    rw[hen] at hA h63;have hch:=Pn.afS ahq;have Xg:∀ b∈A,Gm.tK (b.toNat:Int):=by
     intro b hb;rw[hA] at hb;rcases List.mem_append.1 hb with h | h
     ·simp at h;unfold Gm.tK;rcases h with rfl | rfl | rfl<;>decide
     ·exact hch b h
    have hX:Al.wW A=true:=by rw[hA];exact Al.Zj _
    have hAl:A.length=4+(Pn.enc l).length:=by rw[hA];simp;omega
    refine⟨h256,by omega,Xg,by omega,by omega,.inr ⟨rfl,hX,?_,?_⟩⟩
    ·have hd:Pn.oL (Al.low (A.drop 4))=(l,0):=by
      have:A.drop 4=Pn.enc l:=by rw[hA];rfl
      rw[this,UF hch];exact Pn.Nl l hsc h256 (by omega)
     unfold Al.pts;rw[if_neg (by omega),if_pos (aal Xg),if_neg (by omega),if_pos hX,hd];simp only;rw[if_pos trivial,ha,if_neg (by simp),hlab,UF Xg,if_pos ⟨rfl,rfl⟩]
    ·unfold Al.ascii Pn.nums;rw[b_];intro c hc;obtain⟨b,hb,rfl⟩:=eG.1 hc;have:=(Xg b hb).bd;simp;omega
  ·rw[Al.UL h0 ha he] at hl;injection hl with _ e
   exact absurd e he
 ·rw[Al.UM h0 ha] at hl;by_cases h63:63<l.length
  ·rw[if_pos h63] at hl;simp at hl
  ·rw[if_neg h63] at hl;have hA:A=l.map Pn.byte:=by injection hl with e _;exact e.symm
   have hac:∀ c∈l,0<=c/\c<=127:=fun c hc=>by simpa using b_.1 ha c hc
   obtain⟨e1,e2⟩:=Ut.Eb l hac;refine⟨by omega,by omega,?_,by rw[hA];simp;omega,by rw[hA];simp;omega,.inl ⟨rfl,by rw[hA,e1],by rw[hA,e2]⟩⟩;intro b hb;rw[hA] at hb;obtain⟨c,hc,rfl⟩:=eG.1 hb;have h1:=hac c hc;rw[Pn.wR c h1.1 (by omega)];exact ahq c hc (by omega)
theorem XQ {T:Gm.Tab}{l:List Int}(hv:Gm.valid T l=0)(ha:Al.ascii l=true):Al.wW (Ut.enc l).1=false:=by
 have hac:∀ c∈l,0<=c/\c<=127:=fun c hc=>by simpa using b_.1 ha c hc
 obtain⟨e1,e2⟩:=Ut.Eb l hac;have hh:Gm.DZ l=true:=by
  unfold Gm.valid at hv;split at hv
  ·rename_i h;exact absurd hv h
  split at hv
  ·cases hv
  split at hv
  ·cases hv
  split at hv
  ·cases hv
  ·rename_i h;simpa using h
 have hof:=Gm.ET (Gm.zS hv);have he:(Ut.enc l).1=l.map Pn.byte:=by
  unfold Ut.enc;rw[if_neg (by omega),if_neg]
  ·exact e1
  ·simp only[dP,dA,not_exists,not_and];exact hof.2
 rw[he];cases hx:Al.wW (l.map Pn.byte)
 ·rfl
 ·exfalso;unfold Al.wW at hx;simp only[iq,dG,List.length_map] at hx;obtain⟨h4,hx⟩:=hx;match l,h4 with
  | a::b::c::d::r,_=>
   simp only[List.map_cons,jK,List.take_zero,Al.low,List.map_nil,List.cons.injEq,and_true] at hx;have h45:∀ x,0<=x/\x<=127->Al.lb (Pn.byte x)=45->x=45:=by
    intro x hx0 he;obtain⟨n,rfl⟩:=fZ hx0.1;have H:∀ n:Fin 128,Al.lb (Pn.byte (n.1:Int))=45->(n.1:Int)=45:=by decide +kernel
    exact H ⟨n,by omega⟩ he
   have hc:=h45 c (hac c (by simp)) hx.2.2.1;have hd:=h45 d (hac d (by simp)) hx.2.2.2;subst hc hd;unfold Gm.DZ at hh;simp at hh;omega
  | [],h=>simp at h
  | [_],h=>simp at h
  | [_,_],h=>simp at h
  | [_,_,_],h=>simp at h
end Go.Proofs.YtkachcflifhgiaaGreatDoor
