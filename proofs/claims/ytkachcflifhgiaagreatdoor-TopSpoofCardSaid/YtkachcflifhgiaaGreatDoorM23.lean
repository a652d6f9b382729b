/-     -/
import Derived.Test.YtkachcflifhgiaaGreatDoorM22
import Derived.Test.YtkachcflifhgiaaGreatDoorAppSpanZ
import Derived.StillTailTactics
import Derived.Deep.OwnRows
import Derived.RegionTactic
set_option linter.unusedVariables false
set_option maxRecDepth 100000
set_option maxHeartbeats 16000000
namespace Go.Proofs.YtkachcflifhgiaaGreatDoor
open Go Go.RowKit Go.Shelf Go.Proofs
def Ag (lo hi:Nat)(x y:World):Prop:=∀ g:Nat,lo<=g->g<hi->y.heap[g]?=x.heap[g]?
def Seg (lo hi:Nat)(x:World)(P:World->Prop):Prop:=hi<=x.heap.size/\∀ y:World,hi<=y.heap.size->Ag lo hi x y->P y
section
variable {lo hi lo' hi' B:Nat} {x y:World} {P Q:World->Prop}
theorem Ag.refl (lo hi:Nat)(x:World):Ag lo hi x x:=fun _ _ _=>rfl
theorem Ag.trans {z:World}(h:Ag lo hi x y)(k:Ag lo hi y z):Ag lo hi x z:=fun g a b=>(k g a b).trans (h g a b)
theorem Seg.here (h:Seg lo hi x P):P x:=h.2 x h.1 (Ag.refl _ _ _)
theorem Seg.step (h:Seg lo hi x P)(ha:Ag lo hi x y)(hs:hi<=y.heap.size):Seg lo hi y P:=⟨hs,fun z hz hg=>h.2 z hz (ha.trans hg)⟩
theorem Seg.mono (h:Seg lo hi x P)(hl:lo'<=lo)(hh:hi<=hi')(hx:hi'<=x.heap.size)(hp:∀ y,P y->Q y):Seg lo' hi' x Q:=
 ⟨hx,fun y hy ha=>hp y (h.2 y (aK hh hy) (fun g a b=>ha g (aK hl a) (aG b hh)))⟩
theorem Ag.below (hb:Below B x y)(h:hi<=B):Ag lo hi x y:=fun g _ hg=>hb.block g (aG hg h)
theorem Ag.setCell (x:World){p:Addr}(hp:p.block<lo\/hi<=p.block)(u:Value):Ag lo hi x (x.setCell p u):=fun g a b=>iE x p u g (by omega)
theorem Ag.grown {row:Option Nat}(hg:x.grownBy y row)(hx:hi<=x.heap.size)(hr:∀ g,row=some g->hi<=g\/g<lo):Ag lo hi x y:=fun g a b=>hg.block g (by omega) (fun e=>by have:=hr g e.symm;omega)
theorem Ag.jS {S:List Nat}(ho:jR S x y)(hx:hi<=x.heap.size)(hr:∀ g∈S,hi<=g\/g<lo):Ag lo hi x y:=fun g a b=>ho.block g (by omega) (fun hm=>by have:=hr g hm;omega)
theorem Gv {base size n c:Nat}{e:TypeId}{A:Option Addr}{xs:List Value}(h:x.ownsRow base e size (.slice A n c) n xs):Seg base x.heap.size x (fun y=>Rd y x.heap.size size A n xs):=by
 refine⟨ag _,fun y hy ha=>?_⟩;refine⟨h.1,fun hn=>?_⟩;obtain⟨b,off,hA,hb,hc⟩:=(Rd.kX h).2 hn;subst hA;refine⟨b,off,rfl,hb,fun j u hu=>?_⟩;have hbb:=(h.lt b rfl).1;rw[fE (ha b hbb hb)];exact hc j u hu
end
def wM (x:World)(base:Nat)(A:Option Addr)(n c:Nat)(l:List Gm.Mp):Prop:=
 ∃ cs:List Value,x.ownsRow base 89 2 (.slice A n c) n cs/\l.length=n/\∀ (j:Nat) (m:Gm.Mp),l[j]?=some m->cs[j*2]?=some (.int .i64 m.f) /\
  ∃ A' c',cs[j*2+1]?=some (.slice A' m.to.length c')/\x.ownsRow base 3 1 (.slice A' m.to.length c') m.to.length (ints m.to)
section
variable {x y:World} {base n c:Nat} {A:Option Addr} {l:List Gm.Mp}
theorem wM.nil (x:World)(base:Nat):wM x base none 0 0 []:=⟨[],aH _ _ _ _,rfl,fun j m h=>by simp at h⟩
theorem wM.past (h:wM x base A n c l)(hb:Below x.heap.size x y):wM y base A n c l:=by
 obtain⟨cs,h1,h2,h3⟩:=h;refine⟨cs,kD h1 hb,h2,fun j m hj=>?_⟩;obtain⟨h4,A',c',h5,h6⟩:=h3 j m hj;exact⟨h4,A',c',h5,kD h6 hb⟩
theorem wM.seg (h:wM x base A n c l):Seg base x.heap.size x (fun y=>qZ y x.heap.size A n l):=by
 obtain⟨cs,h1,h2,h3⟩:=h;refine⟨ag _,fun y hy ha=>⟨h2,fun hn=>?_⟩⟩;have hr:=(Gv h1).2 y hy ha;obtain⟨b,off,hA,hb,hc⟩:=hr.2 (by have:=h1.1;omega);refine⟨b,off,hA,hb,fun j m hj=>?_⟩;obtain⟨h4,A',c',h5,h6⟩:=h3 j m hj;exact⟨hc _ _ h4,A',c',hc _ _ h5,(Gv h6).2 y hy ha⟩
theorem wM.snoc {A2 A3:Option Addr}{c2 c3:Nat}{m:Gm.Mp}{cs:List Value}(h1:x.ownsRow base 89 2 (.slice A n c) n cs)(h2:l.length=n)
  (h3:∀ (j:Nat) (m:Gm.Mp),l[j]?=some m->cs[j*2]?=some (.int .i64 m.f)/\∃ A' c',cs[j*2+1]?=some (.slice A' m.to.length c')/\x.ownsRow base 3 1 (.slice A' m.to.length c') m.to.length (ints m.to))
  (h4:x.ownsRow base 3 1 (.slice A3 m.to.length c3) m.to.length (ints m.to)) (hg:x.grownBy y (Value.slice A n c).ownBlock) (h5:y.ownsRow base 89 2 (.slice A2 (n+1) c2) (n+1) (cs++[.int .i64 m.f,.slice A3 m.to.length c3])) :
  wM y base A2 (n+1) c2 (l++[m]):=by
 have hcl:cs.length=n*2:=h1.1;refine⟨_,h5,by simp[h2],fun j q hj=>?_⟩;by_cases hjn:j<n
 ·rw[bz (by omega)] at hj;obtain⟨k1,A',c',k2,k3⟩:=h3 j q hj;exact⟨by rw[bz (by omega)];exact k1,A',c',by rw[bz (by omega)];exact k2,k3.kept hg (yO k3 h1 (by decide))⟩
 ·have hjl:=(ak.1 hj).1;simp[h2] at hjl;obtain rfl:j=n:=by omega
  rw[aT (by omega),h2,gY] at hj;simp at hj;subst hj;exact⟨by rw[aT (by omega),hcl];simp,A3,c3,by rw[aT (by omega),hcl];simp,h4.kept hg (yO h4 h1 (by decide))⟩
end
def vf (V:TV):Nat->Sl
 | 0=>V.cat | 1=>V.cls | 2=>V.ku | 3=>V.jX | 4=>V.scr | 5=>V.jU | 6=>V.jW | 7=>V.ext | 8=>V.maps | 9=>V.dec | 10=>V.exc | _=>V.jY
def xI (T:Gm.Tab):Nat->List Rg.Sn
 | 0=>T.cat | 1=>T.cls | 2=>T.ku | 3=>T.jX | 4=>T.scr | 5=>T.jU | _=>T.jW
def AA (T:Gm.Tab):Nat->List Gm.Mp
 | 7=>T.ext | 8=>T.maps | 9=>T.dec | _=>T.jY
def wG (S:Nat->Sl):TV:=⟨S 0,S 1,S 2,S 3,S 4,S 5,S 6,S 7,S 8,S 9,S 10,S 11⟩
def nZ (S:Nat->Sl)(k:Nat)(s:Sl):Nat->Sl:=fun i=>if i=k then s else S i
theorem agr (V:TV):wG (vf V)=V:=by cases V;rfl
theorem X0 (S:Nat->Sl)(k:Nat)(hk:k<12):(kK (wG S))[k]?=some (.slice (S k).A (S k).n (S k).c):=by
 match k,hk with
 | 0,_=>rfl
 | 1,_=>rfl
 | 2,_=>rfl
 | 3,_=>rfl
 | 4,_=>rfl
 | 5,_=>rfl
 | 6,_=>rfl
 | 7,_=>rfl
 | 8,_=>rfl
 | 9,_=>rfl
 | 10,_=>rfl
 | 11,_=>rfl
theorem KJ (S:Nat->Sl)(k:Nat)(hk:k<12)(s:Sl):(kK (wG S)).setIfInBounds k (.slice s.A s.n s.c)=kK (wG (nZ S k s)):=by
 match k,hk with
 | 0,_=>rfl
 | 1,_=>rfl
 | 2,_=>rfl
 | 3,_=>rfl
 | 4,_=>rfl
 | 5,_=>rfl
 | 6,_=>rfl
 | 7,_=>rfl
 | 8,_=>rfl
 | 9,_=>rfl
 | 10,_=>rfl
 | 11,_=>rfl
def qJ (T:Gm.Tab)(i:Nat)(y:World)(B:Nat)(s:Sl):Prop:=
 if i<7 then Rd y B 3 s.A s.n (spans (xI T i)) else if i=10 then Rd y B 1 s.A s.n (ints T.exc) else qZ y B s.A s.n (AA T i)
theorem qJ.more {T:Gm.Tab}{i:Nat}{y:World}{B B':Nat}{s:Sl}(h:qJ T i y B s)(hB:B<=B'):qJ T i y B' s:=by
 unfold qJ at *;split
 ·rename_i h1;rw[aj h1] at h;exact h.more hB
 ·rename_i h1
  rw[ah h1] at h;split
  ·rename_i h2;rw[aj h2] at h;exact h.more hB
  ·rename_i h2;rw[ah h2] at h;exact h.more hB
def Bh (x:World)(lo hi:Nat)(V:TV)(T:Gm.Tab):Prop:=Seg lo hi x (fun y=>xg y hi->j_ y hi V T)
theorem Bh.step {x y:World}{lo hi:Nat}{V:TV}{T:Gm.Tab}(h:Bh x lo hi V T)(ha:Ag lo hi x y)(hs:hi<=y.heap.size):Bh y lo hi V T:=Seg.step h ha hs
structure BI (w:World)(B:Nat)(V:TV)(T:Gm.Tab)(S:Nat->Sl)(D:Nat->Bool)(x:World):Prop where
 bx:Bk x w.heap.size 26 (kK (wG S))
 rx:Bk x (w.heap.size+1) 26 (kK V0)
 tb:j_ x B V T
 hB:B<=w.heap.size
 bl:Below w.heap.size w x
 dn:∀ i,i<12->D i=true->Seg (w.heap.size+2) x.heap.size x (fun y=>qJ T i y x.heap.size (S i))
 nd:∀ i,i<12->D i=false->S i=vf V i
section
variable {w x y:World} {B:Nat} {V:TV} {T:Gm.Tab} {S:Nat->Sl} {D:Nat->Bool}
theorem j_.rdI (h:j_ x B V T)(i:Nat)(hi:i<12):qJ T i x B (vf V i):=by
 unfold qJ;match i,hi with
 | 0,_=>exact h.cat
 | 1,_=>exact h.cls
 | 2,_=>exact h.ku
 | 3,_=>exact h.jX
 | 4,_=>exact h.scr
 | 5,_=>exact h.jU
 | 6,_=>exact h.jW
 | 7,_=>exact h.ext
 | 8,_=>exact h.maps
 | 9,_=>exact h.dec
 | 10,_=>exact h.exc
 | 11,_=>exact h.jY
theorem BI.cell (h:BI w B V T S D x){k:Nat}(hk:k<12):x.cell? ⟨w.heap.size,k,none⟩=some (.slice (S k).A (S k).n (S k).c)/\x.frozen? ⟨w.heap.size,k,none⟩=false:=⟨(h.bx.cell k).trans (X0 S k hk),h.bx.frozen k⟩
theorem BI.sz (h:BI w B V T S D x):w.heap.size+2<=x.heap.size:=by have:=h.rx.lt;omega
theorem BI.step (h:BI w B V T S D x)(hb:Below x.heap.size x y):BI w B V T S D y:=
 ⟨h.bx.below hb (by have:=h.sz;omega),h.rx.below hb (by have:=h.sz;omega),h.tb.below (hb.mono (by have:=h.sz;have:=h.hB;omega)),h.hB,h.bl.trans (hb.mono (by have:=h.sz;omega)),
  fun i hi hd=>((h.dn i hi hd).step (Ag.below hb (ag _)) hb.size).mono (ag _) hb.size (ag _) (fun z hz=>hz.more hb.size),h.nd⟩
theorem BI.set (h:BI w B V T S D x){k:Nat}(hk:k<12)(s:Sl)(hs:Seg (w.heap.size+2) x.heap.size x (fun y=>qJ T k y x.heap.size s)) :
  BI w B V T (nZ S k s) (fun i=>if i=k then true else D i) (x.setCell ⟨w.heap.size,k,none⟩ (.slice s.A s.n s.c)):=by
 have hsz:=h.sz;have hag:Ag (w.heap.size+2) x.heap.size x (x.setCell ⟨w.heap.size,k,none⟩ (.slice s.A s.n s.c)):=Ag.setCell x (.inl (by show w.heap.size<w.heap.size+2;omega)) _;have hss:(x.setCell ⟨w.heap.size,k,none⟩ (.slice s.A s.n s.c)).heap.size=x.heap.size:=by simp[World.setCell]
 refine⟨?_,h.rx.far (by show w.heap.size+1≠w.heap.size;omega) _,h.tb.below ((ai B x).setCell (p:=⟨w.heap.size,k,none⟩) h.hB _),h.hB,h.bl.setCell (p:=⟨w.heap.size,k,none⟩) (ag _) _,fun i hi hd=>?_,fun i hi hd=>?_⟩
 ·rw[<-KJ S k hk s];exact h.bx.kM k _
 ·rw[hss];by_cases e:i=k
  ·subst e;have:nZ S i s i=s:=by unfold nZ;rw[aj rfl]
   rw[this];exact hs.step hag (by rw[hss];exact ag _)
  ·have:nZ S k s i=S i:=by unfold nZ;rw[ah e]
   rw[this];rw[ah e] at hd;exact (h.dn i hi hd).step hag (by rw[hss];exact ag _)
 ·by_cases e:i=k
  ·rw[aj e] at hd;cases hd
  ·rw[ah e] at hd;unfold nZ;rw[ah e];exact h.nd i hi hd
theorem BI.fin (h:BI w B V T S D x)(hd:∀ i,i<12->D i=true):Bh x (w.heap.size+2) x.heap.size (wG S) T:=by
 refine⟨ag _,fun y hy ha hblk=>?_⟩;have hr:∀ i,i<12->qJ T i y x.heap.size (S i):=fun i hi=>(h.dn i hi (hd i hi)).2 y hy ha;exact⟨hr 0 (by omega),hr 1 (by omega),hr 2 (by omega),hr 3 (by omega),hr 4 (by omega),hr 5 (by omega),hr 6 (by omega),hr 7 (by omega),hr 8 (by omega),hr 9 (by omega),hr 11 (by omega),hr 10 (by omega),hblk,h.tb.good⟩
end
theorem j_.short {x:World}{B:Nat}{V:TV}{T:Gm.Tab}(h:j_ x B V T)(i:Nat)(hi:i<12):(vf V i).n<=256:=by
 have hg:=h.good;match i,hi with
 | 0,_=>have:=hg.cat.len;have:=qO h.cat;show V.cat.n<=256;omega
 | 1,_=>have:=hg.cls.len;have:=qO h.cls;show V.cls.n<=256;omega
 | 2,_=>have:=hg.ku.len;have:=qO h.ku;show V.ku.n<=256;omega
 | 3,_=>have:=hg.jX.len;have:=qO h.jX;show V.jX.n<=256;omega
 | 4,_=>have:=hg.scr.len;have:=qO h.scr;show V.scr.n<=256;omega
 | 5,_=>have:=hg.jU.len;have:=qO h.jU;show V.jU.n<=256;omega
 | 6,_=>have:=hg.jW.len;have:=qO h.jW;show V.jW.n<=256;omega
 | 7,_=>have:=h.ext.1;rcases hg.ext with e | e<;>(rw[e] at this;simp at this;show V.ext.n<=256;omega)
 | 8,_=>have:=hg.PV;have:=h.maps.1;show V.maps.n<=256;omega
 | 9,_=>have:=hg.Fz;have:=h.dec.1;show V.dec.n<=256;omega
 | 10,_=>have:=hg.Lt;have:=lY h.exc;show V.exc.n<=256;omega
 | 11,_=>have:=hg.Pj;have:=h.jY.1;show V.jY.n<=256;omega
theorem j_.agB {x:World}{B:Nat}{V:TV}{T:Gm.Tab}(h:j_ x B V T)(i:Nat)(hi:i=7\/i=8\/i=9\/i=11):∀ m∈AA T i,m.to.length<=256:=by
 have hg:=h.good;rcases hi with rfl | rfl | rfl | rfl
 ·intro m hm;rcases hg.ext with e | e
  ·have hm:m∈T.ext:=hm;rw[e] at hm;cases hm
  ·have hm:m∈T.ext:=hm;rw[e] at hm;simp at hm;subst hm;decide
 ·intro m hm;obtain⟨_,_,j,_,_,e⟩:=hg.maps m hm;rcases e with e | e<;>rw[e]<;>simp
 ·intro m hm;obtain⟨_,_,b,_,e⟩:=hg.dec m hm;rcases e with e | ⟨k,e,_⟩<;>rw[e]<;>simp
 ·intro m hm;have h1:=(hg.jY m hm).1;have h2:∀ m∈Gm.uS,m.to.length<=256:=by decide
  exact h2 m h1
theorem Qd:(Tryz.prog.info? 89).map (fun i=>(i.zero,i.size,i.bytes))=some (some (.agg #[.int .i64 0,.slice none 0 0]),2,32):=by kernel_rfl
def Uo (g:Nat):Array Value:=#[.pointer (some ⟨g,0,none⟩),.pointer (some ⟨g,1,none⟩),.pointer (some ⟨g,2,none⟩),.pointer (some ⟨g,3,none⟩),.pointer (some ⟨g,4,none⟩),.pointer (some ⟨g,5,none⟩),.pointer (some ⟨g,6,none⟩)]
def YA (g:Nat):Array Value:=#[.pointer (some ⟨g,7,none⟩),.pointer (some ⟨g,8,none⟩),.pointer (some ⟨g,9,none⟩),.pointer (some ⟨g,11,none⟩)]
theorem agN (g k:Nat)(hk:k<7):(Uo g)[k]?=some (.pointer (some ⟨g,k,none⟩)):=by
 match k,hk with
 | 0,_=>rfl
 | 1,_=>rfl
 | 2,_=>rfl
 | 3,_=>rfl
 | 4,_=>rfl
 | 5,_=>rfl
 | 6,_=>rfl
def zC:Nat->Nat
 | 0=>7 | 1=>8 | 2=>9 | _=>11
theorem agM (g k:Nat)(hk:k<4):(YA g)[k]?=some (.pointer (some ⟨g,zC k,none⟩)):=by
 match k,hk with
 | 0,_=>rfl
 | 1,_=>rfl
 | 2,_=>rfl
 | 3,_=>rfl
def dB (k i:Nat):Bool:=decide (i<7)||(decide (0<k)&&decide (i=7))||(decide (1<k)&&decide (i=8))||(decide (2<k)&&decide (i=9))||(decide (3<k)&&decide (i=11))
theorem af2:(fun i=>decide (i<7))=dB 0:=by funext i;simp[dB]
theorem af4 (k:Nat)(hk:k<4):(fun i=>if i=zC k then true else dB k i)=dB (k+1):=by
 funext i
 match k,hk with
 | 0,_=>unfold dB zC;by_cases h:i=7<;>simp[h]
 | 1,_=>unfold dB zC;by_cases h:i=8<;>simp[h]
 | 2,_=>unfold dB zC;by_cases h:i=9<;>simp[h]
 | 3,_=>unfold dB zC;by_cases h:i=11<;>simp[h]
theorem af5 (i:Nat)(hi:i<12):(if i=10 then true else dB 4 i)=true:=by
 unfold dB;by_cases h:i=10
 ·simp[h]
 ·rw[ah h];have:i<7\/i=7\/i=8\/i=9\/i=11:=by omega
  rcases this with h | h | h | h | h<;>simp[h]
theorem af6 (k:Nat):(fun i=>if i=k then true else decide (i<k))=(fun i=>decide (i<k+1)):=by
 funext i
 by_cases h:i=k
 ·rw[aj h];simp;omega
 ·rw[ah h];by_cases h2:i<k
  ·rw[bT h2,bT (by omega)]
  ·rw[bD h2,bD (by omega)]
theorem ag4 (k:Nat)(hk:k<4):zC k<12/\(zC k=7\/zC k=8\/zC k=9\/zC k=11)/\dB k (zC k)=false/\¬zC k<7/\zC k≠10:=by
 match k,hk with
 | 0,_=>decide
 | 1,_=>decide
 | 2,_=>decide
 | 3,_=>decide
theorem S9 {w:World}(ty:TypeId){base:Nat}{v:Value}{n:Nat}{xs:List Int}(hown:w.ownsRow base 3 1 v n (ints xs)){B:Nat}{A:Option Addr}{m c:Nat}{ys:List Int}(hr:Rd w B 1 A m (ints ys))
  (hlen:n+m<=1000000) (hbase:base<=w.heap.size):∃ A' c' w',(Builtin.append_ #[22,22] ty #[v,.slice A m c]).run Tryz.prog w=.ok (.slice A' (n+m) c') w'/\w'.ownsRow base 3 1 (.slice A' (n+m) c') (n+m) (ints (xs++ys))/\w.grownBy w' v.ownBlock:=by
 obtain⟨i0,hi,hz0,hz1,hz2⟩:=dR AP;obtain⟨v',w',h1,h2,h3,_⟩:=wU (P:=Tryz.prog) base 22 ty 3 i0 (.int .i64 0) 1 8 bC hi hz0 hz1 hz2 rfl (by decide) v n (ints xs) hown B A m c (ints ys) hr (AL ys) (by unfold maxLen;omega) (by omega) hbase;obtain⟨A',c',rfl⟩:=o7 h2;rw[<-CU] at h2;exact⟨A',c',w',h1,h2,h3⟩
theorem SY {w:World}(ty:TypeId){base:Nat}{v:Value}{n:Nat}{xs:List Value}(hown:w.ownsRow base 89 2 v n xs){B:Nat}{A:Option Addr}{m c:Nat}{ys:List Value}(hr:Rd w B 2 A m ys)(h1:∀ u∈ys,u.oneCell'=true)
  (hlen:n+m<=1000000) (hbase:base<=w.heap.size):∃ A' c' w',(Builtin.append_ #[24,24] ty #[v,.slice A m c]).run Tryz.prog w=.ok (.slice A' (n+m) c') w'/\w'.ownsRow base 89 2 (.slice A' (n+m) c') (n+m) (xs++ys)/\w.grownBy w' v.ownBlock:=by
 obtain⟨i0,hi,hz0,hz1,hz2⟩:=dR Qd;obtain⟨v',w',h1,h2,h3,_⟩:=wU (P:=Tryz.prog) base 24 ty 89 i0 (.agg #[.int .i64 0,.slice none 0 0]) 2 32 Tryz.underlying24 hi hz0 hz1 hz2 rfl (by decide) v n xs hown B A m c ys hr h1 (by unfold maxLen;omega) (by omega) hbase;obtain⟨A',c',rfl⟩:=o7 h2;exact⟨A',c',w',h1,h2,h3⟩
theorem VW {x:World}{g:Nat}{T:TypeId}{a0 a1 a2 a3 a4 a5 a6 a7 a8 a9 a10 a11:Value}(h:Bk x g T #[a0,a1,a2,a3,a4,a5,a6,a7,a8,a9,a10,a11])(v0 v1 v2 v3 v4 v5 v6 v7 v8 v9 v10 v11:Value):Bk ((((((((((((x.setCell ⟨g,0,none⟩ v0).setCell ⟨g,1,none⟩ v1).setCell ⟨g,2,none⟩ v2).setCell ⟨g,3,none⟩ v3).setCell ⟨g,4,none⟩ v4).setCell ⟨g,5,none⟩ v5).setCell ⟨g,6,none⟩ v6).setCell ⟨g,7,none⟩ v7).setCell ⟨g,8,none⟩ v8).setCell ⟨g,9,none⟩ v9).setCell ⟨g,10,none⟩ v10).setCell ⟨g,11,none⟩ v11) g T #[v0,v1,v2,v3,v4,v5,v6,v7,v8,v9,v10,v11]:=by
 have h0:Bk _ g T #[v0,a1,a2,a3,a4,a5,a6,a7,a8,a9,a10,a11]:=h.kM 0 v0;have h1:Bk _ g T #[v0,v1,a2,a3,a4,a5,a6,a7,a8,a9,a10,a11]:=h0.kM 1 v1;have h2:Bk _ g T #[v0,v1,v2,a3,a4,a5,a6,a7,a8,a9,a10,a11]:=h1.kM 2 v2;have h3:Bk _ g T #[v0,v1,v2,v3,a4,a5,a6,a7,a8,a9,a10,a11]:=h2.kM 3 v3;have h4:Bk _ g T #[v0,v1,v2,v3,v4,a5,a6,a7,a8,a9,a10,a11]:=h3.kM 4 v4;have h5:Bk _ g T #[v0,v1,v2,v3,v4,v5,a6,a7,a8,a9,a10,a11]:=h4.kM 5 v5;have h6:Bk _ g T #[v0,v1,v2,v3,v4,v5,v6,a7,a8,a9,a10,a11]:=h5.kM 6 v6;have h7:Bk _ g T #[v0,v1,v2,v3,v4,v5,v6,v7,a8,a9,a10,a11]:=h6.kM 7 v7;have h8:Bk _ g T #[v0,v1,v2,v3,v4,v5,v6,v7,v8,a9,a10,a11]:=h7.kM 8 v8;have h9:Bk _ g T #[v0,v1,v2,v3,v4,v5,v6,v7,v8,v9,a10,a11]:=h8.kM 9 v9;have h10:Bk _ g T #[v0,v1,v2,v3,v4,v5,v6,v7,v8,v9,v10,a11]:=h9.kM 10 v10;have h11:Bk _ g T #[v0,v1,v2,v3,v4,v5,v6,v7,v8,v9,v10,v11]:=h10.kM 11 v11;exact h11
theorem LU {x W:World}{B g:Nat}(h:Below B W x)(hg:B<=g)(v0 v1 v2 v3 v4 v5 v6 v7 v8 v9 v10 v11:Value):Below B W ((((((((((((x.setCell ⟨g,0,none⟩ v0).setCell ⟨g,1,none⟩ v1).setCell ⟨g,2,none⟩ v2).setCell ⟨g,3,none⟩ v3).setCell ⟨g,4,none⟩ v4).setCell ⟨g,5,none⟩ v5).setCell ⟨g,6,none⟩ v6).setCell ⟨g,7,none⟩ v7).setCell ⟨g,8,none⟩ v8).setCell ⟨g,9,none⟩ v9).setCell ⟨g,10,none⟩ v10).setCell ⟨g,11,none⟩ v11):=by
 exact ((((((((((((h.setCell (p:=⟨g,0,none⟩) hg v0).setCell (p:=⟨g,1,none⟩) hg v1).setCell (p:=⟨g,2,none⟩) hg v2).setCell (p:=⟨g,3,none⟩) hg v3).setCell (p:=⟨g,4,none⟩) hg v4).setCell (p:=⟨g,5,none⟩) hg v5).setCell (p:=⟨g,6,none⟩) hg v6).setCell (p:=⟨g,7,none⟩) hg v7).setCell (p:=⟨g,8,none⟩) hg v8).setCell (p:=⟨g,9,none⟩) hg v9).setCell (p:=⟨g,10,none⟩) hg v10).setCell (p:=⟨g,11,none⟩) hg v11)
theorem ade {x:World}{lo hi g:Nat}(hg:g<lo)(v0 v1 v2 v3 v4 v5 v6 v7 v8 v9 v10 v11:Value):Ag lo hi x ((((((((((((x.setCell ⟨g,0,none⟩ v0).setCell ⟨g,1,none⟩ v1).setCell ⟨g,2,none⟩ v2).setCell ⟨g,3,none⟩ v3).setCell ⟨g,4,none⟩ v4).setCell ⟨g,5,none⟩ v5).setCell ⟨g,6,none⟩ v6).setCell ⟨g,7,none⟩ v7).setCell ⟨g,8,none⟩ v8).setCell ⟨g,9,none⟩ v9).setCell ⟨g,10,none⟩ v10).setCell ⟨g,11,none⟩ v11):=by
 intro b h1 h2;simp only[World.setCell];simp[Array.getElem?_modify,show ¬g=b by omega]
theorem Jh {x:World}{g:Nat}(v0 v1 v2 v3 v4 v5 v6 v7 v8 v9 v10 v11:Value):((((((((((((x.setCell ⟨g,0,none⟩ v0).setCell ⟨g,1,none⟩ v1).setCell ⟨g,2,none⟩ v2).setCell ⟨g,3,none⟩ v3).setCell ⟨g,4,none⟩ v4).setCell ⟨g,5,none⟩ v5).setCell ⟨g,6,none⟩ v6).setCell ⟨g,7,none⟩ v7).setCell ⟨g,8,none⟩ v8).setCell ⟨g,9,none⟩ v9).setCell ⟨g,10,none⟩ v10).setCell ⟨g,11,none⟩ v11).heap.size=x.heap.size:=by simp[World.setCell]
section
variable {w:World} {B:Nat} {V:TV} {T:Gm.Tab}
@[reducible] def z12:Array Value:=#[.slice none 0 0,.slice none 0 0,.slice none 0 0,.slice none 0 0,.slice none 0 0,.slice none 0 0,.slice none 0 0,.slice none 0 0,.slice none 0 0,.slice none 0 0,.slice none 0 0,.slice none 0 0]
theorem Z4 (h:j_ w B V T)(hB:B<=w.heap.size):BI w B V T (vf V) (fun _=>false) ((w.alloc (.cells (kK V) 26)).alloc (.cells z12 26)):=
 ⟨by rw[agr];exact (Bk.new w _ _).alloc _,l_ _ _ _ _,h.below ((mP w _ _).mono hB),hB,mP w _ _,fun i _ hd=>(by cases hd),fun i _ _=>rfl⟩
def ajY (T:Gm.Tab)(w:World)(e:Ending)(w':World):Prop:=∃ V',e=.returned (kF V')/\Bh w' (w.heap.size+2) w'.heap.size V' T/\Below w.heap.size w w'
theorem acV (h:j_ w B V T)(hB:B<=w.heap.size):Calls Tryz.prog 92 #[kF V] w (ajY T w):=by
 have Ij:=jP (Z4 h hB);have Vo:=jP (h.short);have HSM:=jP (h.agB);clear h hB;go_enter Tryz.func92,Tryz.ntmps92
 go_upto_region 1 with (fail)
 generalize hw0:(w.alloc (.cells (kK V) 26)).alloc (.cells z12 26)=w0 at *;have hs0:w0.heap.size=w.heap.size+2:=by rw[<-hw0];simp
 clear hw0;go_wp2_with fail
 have HA:=jP ((ai w0.heap.size w0).alloc (ag _) (.cells (Uo w.heap.size) 84));have NM:=jP (show Bk (w0.alloc (.cells (Uo w.heap.size) 84)) (w.heap.size+2) 84 (Uo w.heap.size) by rw[<-hs0];exact Bk.new w0 _ _);have BG:=jP (Ij.1.step HA.1);have HZ1:=jP (HA.1.size);unfold Uo at HA NM BG HZ1;generalize hw1:w0.alloc (.cells _ 84)=w1 at *;have hs1:w.heap.size+2<w1.heap.size:=NM.1.lt;clear hw1 HA Ij HZ1;go_loopw [19] (fun vi wr=>∃ (k:Nat) (S:Nat->Sl),k<=7/\vi=.int .i64 k/\BI w B V T S (fun i=>decide (i<k)) wr/\Bk wr (w.heap.size+2) 84 (Uo w.heap.size)) (fun vi _=>7-(intOf vi).toNat)
 case atStart=>exact⟨0,vf V,by omega,rfl,by simpa using BG.1,NM.1⟩
 case round=>
  obtain⟨k,S,hk,rfl,hc,hp⟩:=hrel;have HC:=jP hc;have HP:=jP hp;clear hc hp;by_cases hlt:k<7
  ·obtain⟨hcl,hfz⟩:=HC.1.cell (k:=k) (by omega);have hsk:=HC.1.nd k (by omega) (by simp);have hrd:Rd wr B 3 (S k).A (S k).n (spans (xI T k)):=by
    have:=HC.1.tb.rdI k (by omega);rw[<-hsk] at this;unfold qJ at this;rw[aj hlt] at this;exact this
   have hsn:(S k).n<=256:=by rw[hsk];exact Vo.1 k (by omega)
   have h0:wr.cell? ⟨w.heap.size+2,k,none⟩=some (.pointer (some ⟨w.heap.size,k,none⟩)):=(HP.1.cell k).trans (agN _ k hlt);have ny:=jP hrd;have hsz:=HC.1.sz;clear hsk hrd;generalize S k=sk at *;obtain⟨sA,sn,sc⟩:=sk;simp only at hcl ny hsn;have Bv:=jP (aH wr (w.heap.size+2) 82 3);go_wp2_with (at_builtin;refine adb (by rfl) _ _ rfl (base:=w.heap.size+2) (n:=0) (xs:=[]) rfl Bv.1 rfl ny.1 (by omega) (by omega) ?_)
   intro A4 c4 w4 kQ hg4 _;try simp only[bf] at kQ ⊢
   have hb4:Below wr.heap.size wr w4:=(ai wr.heap.size wr).grown hg4 (ag _) (fun g e=>by cases e);have zO:=jP (HC.1.step hb4);have xE:=jP (HP.1.below hb4 HP.1.lt);have zK:=jP (zO.1.set (k:=k) (by omega) ⟨A4,sn,c4⟩ ((Gv kQ).mono (ag _) (ag _) (ag _) (fun y hy=>by unfold qJ;rw[aj hlt];exact hy)));have alT:w4.cell? ⟨w.heap.size,k,none⟩=some (.slice sA sn sc):=(hb4.cell (p:=⟨w.heap.size,k,none⟩) (by show w.heap.size<wr.heap.size;omega)).trans hcl;have alM:w4.frozen? ⟨w.heap.size,k,none⟩=false:=(hb4.frozen (p:=⟨w.heap.size,k,none⟩) (by show w.heap.size<wr.heap.size;omega)).trans hfz;have Kw:=jP (xE.1.far (p:=⟨w.heap.size,k,none⟩) (by show w.heap.size+2≠w.heap.size;omega) (.slice A4 sn c4));clear kQ hg4 hb4 hcl hfz h0;go_wp2_with fail
   go_roundw
   case rel=>exact⟨k+1,_,by omega,by go_num,by rw[<-af6];exact zK.1,Kw.1⟩
   case measure=>simp[intOf]<;>omega
  ·have hk7:k=7:=by omega
   rw[show (fun i=>decide (i<k))=dB 0 by rw[hk7];exact af2] at HC;have hb7:decide ((k:Int)<7)=false:=bD (by omega);clear hk7 hlt hk;have xM:=jP (Bk.new wr 203 (YA w.heap.size));have Gf:=jP (HC.1.step ((ai wr.heap.size wr).alloc (ag _) (.cells (YA w.heap.size) 203)));have alu:=HC.1.sz;clear HP NM BG HC;obtain⟨q0,hq0⟩:∃ q,q=wr.heap.size:=⟨_,rfl⟩;go_wp2_with fail
   unfold YA at xM Gf;generalize wr.alloc (.cells _ 203)=w2 at *;rw[<-hq0] at xM alu ⊢;clear hq0;go_loopw [36] (fun vi wt=>∃ (k:Nat) (S:Nat->Sl),k<=4/\vi=.int .i64 k/\BI w B V T S (dB k) wt/\Bk wt q0 203 (YA w.heap.size)) (fun vi _=>4-(intOf vi).toNat)
   case atStart=>exact⟨0,S,by omega,rfl,Gf.1,xM.1⟩
   case round=>
    obtain⟨wt,rfl⟩:∃ wt:World,wt=wr:=⟨_,rfl⟩;obtain⟨k,S,hk,rfl,hc,hp⟩:=hrel;have HC:=jP hc;have HP:=jP hp;clear hc hp;by_cases hlt:k<4
    ·have hb4:decide ((k:Int)<4)=true:=bT (by omega);obtain⟨Qm,hi7,hdk,acj,ack⟩:=ag4 k hlt;have NT:=jP (af4 k hlt);have h0:wt.cell? ⟨q0,k,none⟩=some (.pointer (some ⟨w.heap.size,zC k,none⟩)):=(HP.1.cell k).trans (agM _ k hlt);generalize zC k=q at *;obtain⟨hcl,hfz⟩:=HC.1.cell (k:=q) Qm;have hsk:=HC.1.nd q Qm hdk;have hrd:qZ wt B (S q).A (S q).n (AA T q):=by
      have:=HC.1.tb.rdI q Qm;rw[<-hsk] at this;unfold qJ at this;rw[ah acj,ah ack] at this;exact this
     have hsn:(S q).n<=256:=by rw[hsk];exact Vo.1 q Qm
     have vM:=jP (HSM.1 q hi7);have ny:=jP hrd;have hsz:=HC.1.sz;have HRI:=jP (show ∀ y K s,qZ y K s.A s.n (AA T q)->qJ T q y K s from fun y K s h=>by unfold qJ;rw[ah acj,ah ack];exact h);clear hsk hrd acj ack hdk;generalize S q=sk at *;obtain⟨sA,sn,sc⟩:=sk;simp only at hcl ny hsn;generalize AA T q=l at *;have zN:=jP (show l.length=sn from ny.1.1);go_wp2_with fail
     clear h0;go_loopw [7,44] (fun vo vi wu=>∃ (j:Nat) (A4:Option Addr) (c4:Nat),j<=sn/\vi=.int .i64 j/\vo=.slice A4 j c4/\wM wu wt.heap.size A4 j c4 (l.take j)/\Below wt.heap.size wt wu) (fun _ vi _=>sn-(intOf vi).toNat)
     case atStart=>exact⟨0,none,0,by omega,rfl,rfl,wM.nil _ _,ai _ _⟩
     case round=>
      obtain⟨wu,rfl⟩:∃ wu:World,wu=wr:=⟨_,rfl⟩;obtain⟨j,A4,c4,hj,rfl,rfl,hmo,hbl⟩:=hrel;have HMO:=jP hmo;have oO:=jP hbl;have hsu:=hbl.size;have hBu:B<=wu.heap.size:=by have:=HC.1.hB;omega
      clear hmo hbl;by_cases hlj:j<sn
      ·obtain⟨b,off,m,Am,cm,rfl,hbB,hat,hm0,hm1,hmr⟩:=rU (ny.1.below (oO.1.mono (by have:=HC.1.hB;omega))) hlj;have hml:=vM.1 m (ay hat);have wZ:=jP (show l.take (j+1)=l.take j++[m] by
        obtain⟨q1,q2⟩:=ak.1 hat;rw[az q1,q2])
       have HMR:=jP hmr;have qy:=jP (Bk.new wu 89 #[.int .i64 m.f,.slice Am m.to.length cm]);have hal:=(ai wu.heap.size wu).alloc (ag _) (.cells #[.int .i64 m.f,.slice Am m.to.length cm] 89);have HA:=jP hal;clear hat hmr hal;go_wp2_with fail
       clear hm0 hm1;generalize hwv:wu.alloc (.cells #[.int .i64 m.f,.slice Am m.to.length cm] 89)=wv at *;have hsv:wv.heap.size=wu.heap.size+1:=by rw[<-hwv];simp
       clear hwv;have nS:=jP ((oO.1.trans (HA.1.mono hsu)).drew);obtain⟨cs,hm1,hm2,Fa⟩:=HMO.1.past HA.1;have zM:=jP (show wv.drew.ownsRow _ _ _ _ _ _ from hm1);have oN:=jP hm2;have y_:=jP (show ∀ (i:Nat) (x:Gm.Mp),(l.take j)[i]?=some x->cs[i*2]?=some (.int .i64 x.f)/\∃ A' c',cs[i*2+1]?=some (.slice A' x.to.length c')/\wv.drew.ownsRow wt.heap.size 3 1 (.slice A' x.to.length c') x.to.length (ints x.to) from Fa);have HOB:=jP (show ∀ g,(Value.slice A4 j c4).ownBlock=some g->g<wu.heap.size from fun g hg=>by
        obtain⟨_,k1,_⟩:=HMO.1;exact (k1.lt g hg).2)
       have aiU:=jP (show Rd wv.drew B 1 Am m.to.length (ints m.to) from (HMR.1.below ((HA.1.mono hBu).drew)));have hs5:(Two ⟨wu.heap.size,0,none⟩ ⟨wu.heap.size,1,none⟩ (.int .i64 m.f) (.slice Am m.to.length cm)) wv.drew:=⟨qy.1.cell 0,qy.1.cell 1⟩;clear hm1 hm2 Fa HMR HMO HA qy;have hsz5:wv.drew.heap.size=wu.heap.size+1:=hsv;refine aI (S:=Two ⟨wu.heap.size,0,none⟩ ⟨wu.heap.size,1,none⟩ (.int .i64 m.f) (.slice Am m.to.length cm)) (by kernel_rfl) hs5 (fun hHeld=>?_);generalize wv.drew=w5 at *;refine tk 0 ?_;refine tk 1 ?_;refine tk 2 ?_;refine tk 3 ?_;refine tk 4 ?_;obtain⟨A6,c6,w6,hrun,kT,Fb⟩:=S9 (w:=w5) 22 (base:=wt.heap.size) (v:=.slice none 0 0) (n:=0) (xs:=[]) (aH _ _ _ _) aiU.1 (c:=cm) (by omega) (by omega);rw[bf] at hrun kT;have hb6:Below w5.heap.size w5 w6:=(ai w5.heap.size w5).grown Fb (ag _) (fun g e=>by cases e);refine rc 5 fun K hK=>?_;refine a_ _ _ _ _ _ rfl (.slice none 0 0) (.slice Am m.to.length cm) rfl rfl _ _ hrun ?_;have hS6:=hs5.below hb6 (show wu.heap.size<w5.heap.size by omega) (show wu.heap.size<w5.heap.size by omega);refine rk hK hS6 fun hHeld=>?_;clear hK K;have lI:=jP kT;have mY:=jP (nS.1.trans (hb6.mono (by omega)));have Lm:w5.heap.size<=w6.heap.size:=hb6.size;have aiZ:=jP (kD zM.1 hb6);have aiY:=jP (show ∀ (i:Nat) (x:Gm.Mp),(l.take j)[i]?=some x->cs[i*2]?=some (.int .i64 x.f)/\∃ A' c',cs[i*2+1]?=some (.slice A' x.to.length c')/\w6.ownsRow wt.heap.size 3 1 (.slice A' x.to.length c') x.to.length (ints x.to) from fun i x hx=>by
        obtain⟨k1,A',c',k2,k3⟩:=y_.1 i x hx;exact⟨k1,A',c',k2,kD k3 hb6⟩)
       clear hrun kT Fb hb6 zM y_ nS aiU;refine tk 6 ?_;refine rc 7 fun K hK=>?_;go_simp
       have hal:=(ai w6.heap.size w6).alloc (ag _) (.cells #[.int .i64 m.f,.slice A6 m.to.length c6] 89);have hS7:=hS6.below hal (show wu.heap.size<w6.heap.size by omega) (show wu.heap.size<w6.heap.size by omega);have qy:=jP (Bk.new w6 89 #[.int .i64 m.f,.slice A6 m.to.length c6]);refine rk hK hS7 fun hHeld=>?_;clear hK K;have mD:=jP (kD lI.1 hal);have tZ:=jP (mY.1.trans (hal.mono (by omega)));have XE:=jP (kD aiZ.1 hal);have aiX:=jP (show ∀ (i:Nat) (x:Gm.Mp),(l.take j)[i]?=some x->cs[i*2]?=some (.int .i64 x.f)/\∃ A' c',cs[i*2+1]?=some (.slice A' x.to.length c')/\(w6.alloc (.cells #[.int .i64 m.f,.slice A6 m.to.length c6] 89)).ownsRow wt.heap.size 3 1 (.slice A' x.to.length c') x.to.length (ints x.to) from fun i x hx=>by
        obtain⟨k1,A',c',k2,k3⟩:=aiY.1 i x hx;exact⟨k1,A',c',k2,kD k3 hal⟩)
       generalize hw7:w6.alloc (.cells #[.int .i64 m.f,.slice A6 m.to.length c6] 89)=w7 at *;have alx:w7.heap.size=w6.heap.size+1:=by rw[<-hw7];simp
       clear hw7 hal aiZ aiY lI mY;have uI:Rd w7 w7.heap.size 2 (some ⟨w6.heap.size,0,none⟩) 1 [.int .i64 m.f,.slice A6 m.to.length c6]:=⟨rfl,fun _=>⟨w6.heap.size,0,rfl,by omega,fun i u hu=>by rw[qy.1.cell,bf];simpa using hu⟩⟩;obtain⟨A8,c8,w8,hrun,oZ,nN⟩:=SY (w:=w7) 24 (base:=wt.heap.size) XE.1 uI (c:=1) (by simp[Value.oneCell']) (by omega) (by omega);refine rc 8 fun K hK=>?_;refine a_ _ _ _ _ _ rfl (.slice A4 j c4) (.slice (some ⟨w6.heap.size,0,none⟩) 1 1) rfl rfl _ _ hrun ?_;have Dl:Two ⟨wu.heap.size,0,none⟩ ⟨wu.heap.size,1,none⟩ (.int .i64 m.f) (.slice Am m.to.length cm) w8:=
        ⟨(fE (nN.block wu.heap.size (by omega) (fun e=>by have:=HOB.1 _ e.symm;omega))).trans hS7.a,(fE (nN.block wu.heap.size (by omega) (fun e=>by have:=HOB.1 _ e.symm;omega))).trans hS7.b⟩
       refine rk hK Dl fun hHeld=>?_;clear hK K;refine tk 9 ?_;refine aJ (by kernel_rfl) ?_ _;have aiV:=jP (wM.snoc XE.1 oN.1 aiX.1 mD.1 nN oZ);rw[<-wZ.1] at aiV;have qM:=jP (tZ.1.grown nN (by omega) (fun g hg=>(XE.1.lt g hg).1));clear hrun oZ nN Dl hS7 hS6 hs5 hHeld XE aiX mD tZ uI qy;go_wp2_with fail
       go_roundw
       case rel=>exact⟨j+1,A8,c8,by omega,by go_num,rfl,aiV.1,qM.1⟩
       case measure=>simp[intOf]<;>omega
      ·obtain rfl:j=sn:=by omega
       have hmo:=HMO.1;rw[aP (by rw[zN.1];exact ag _)] at hmo;have HC5:=jP (HC.1.step oO.1);have Kw:=jP (HP.1.below oO.1 HP.1.lt);have uN:=jP (HC5.1.set (k:=q) Qm ⟨A4,j,c4⟩ (hmo.seg.mono hsz (ag _) (ag _) (fun y hy=>HRI.1 y _ ⟨A4,j,c4⟩ hy)));rw[NT.1] at uN;have aph:wu.cell? ⟨w.heap.size,q,none⟩=some (.slice sA j sc):=(oO.1.cell (p:=⟨w.heap.size,q,none⟩) (by show w.heap.size<wt.heap.size;omega)).trans hcl;have apf:wu.frozen? ⟨w.heap.size,q,none⟩=false:=(oO.1.frozen (p:=⟨w.heap.size,q,none⟩) (by show w.heap.size<wt.heap.size;omega)).trans hfz;have Kv:=jP (Kw.1.far (p:=⟨w.heap.size,q,none⟩) (by show q0≠w.heap.size;omega) (.slice A4 j c4));clear hmo hcl hfz HMO;go_wp2_with fail
       go_roundw
       case rel=>exact⟨k+1,_,by omega,by go_num,uN.1,Kv.1⟩
       case measure=>simp[intOf]<;>omega
    ·obtain rfl:k=4:=by omega
     have hd9:dB 4 10=false:=rfl;obtain⟨hcl,hfz⟩:=HC.1.cell (k:=10) (by omega);have hsk:=HC.1.nd 10 (by omega) hd9;have hrd:Rd wt B 1 (S 10).A (S 10).n (ints T.exc):=by
      have:=HC.1.tb.rdI 10 (by omega);rw[<-hsk] at this;exact this
     have hsn:(S 10).n<=256:=by rw[hsk];exact Vo.1 10 (by omega)
     have ny:=jP hrd;have hsz:=HC.1.sz;clear hsk hrd;generalize S 10=sk at *;obtain⟨sA,sn,sc⟩:=sk;simp only at hcl ny hsn;have Bv:=jP (aH wt (w.heap.size+2) 3 1);go_wp2_with (at_builtin;refine kW (by rfl) _ _ rfl (base:=w.heap.size+2) (n:=0) (xs:=[]) rfl Bv.1 rfl ny.1 (by omega) (by omega) ?_)
     intro A4 c4 w4 kQ hg4 _;try simp only[bf] at kQ ⊢
     have hb4:Below wt.heap.size wt w4:=(ai wt.heap.size wt).grown hg4 (ag _) (fun g e=>by cases e);have zO:=jP (HC.1.step hb4);have zK:=jP (zO.1.set (k:=10) (by omega) ⟨A4,sn,c4⟩ ((Gv kQ).mono (ag _) (ag _) (ag _) (fun y hy=>hy)));have alT:w4.cell? ⟨w.heap.size,10,none⟩=some (.slice sA sn sc):=(hb4.cell (p:=⟨w.heap.size,10,none⟩) (by show w.heap.size<wt.heap.size;omega)).trans hcl;have alM:w4.frozen? ⟨w.heap.size,10,none⟩=false:=(hb4.frozen (p:=⟨w.heap.size,10,none⟩) (by show w.heap.size<wt.heap.size;omega)).trans hfz;clear kQ hg4 hb4 hcl hfz;have Si:=jP (zK.1.fin af5);have HFB:=jP zK.1.bx;have HFR:=jP zK.1.rx;have Ie:=jP zK.1.bl;generalize wG (nZ S 10 ⟨A4,sn,c4⟩)=V9 at *;obtain⟨x0,x1,x2,x3,x4,x5,x6,x7,x8,x9,x10,x11⟩:=rD HFB.1;have y0:=fun i=>HFR.1.cell i;have f0:=fun i=>HFR.1.frozen i;have HE:=jP (VW (show Bk _ (w.heap.size+1) 26 #[.slice none 0 0,.slice none 0 0,.slice none 0 0,.slice none 0 0,.slice none 0 0,.slice none 0 0,.slice none 0 0,.slice none 0 0,.slice none 0 0,.slice none 0 0,.slice none 0 0,.slice none 0 0] from HFR.1) (.slice V9.cat.A V9.cat.n V9.cat.c) (.slice V9.cls.A V9.cls.n V9.cls.c) (.slice V9.ku.A V9.ku.n V9.ku.c) (.slice V9.jX.A V9.jX.n V9.jX.c) (.slice V9.scr.A V9.scr.n V9.scr.c) (.slice V9.jU.A V9.jU.n V9.jU.c) (.slice V9.jW.A V9.jW.n V9.jW.c) (.slice V9.ext.A V9.ext.n V9.ext.c) (.slice V9.maps.A V9.maps.n V9.maps.c) (.slice V9.dec.A V9.dec.n V9.dec.c) (.slice V9.exc.A V9.exc.n V9.exc.c) (.slice V9.jY.A V9.jY.n V9.jY.c));have zN:=jP (LU Ie.1 (show w.heap.size<=w.heap.size+1 by omega) (.slice V9.cat.A V9.cat.n V9.cat.c) (.slice V9.cls.A V9.cls.n V9.cls.c) (.slice V9.ku.A V9.ku.n V9.ku.c) (.slice V9.jX.A V9.jX.n V9.jX.c) (.slice V9.scr.A V9.scr.n V9.scr.c) (.slice V9.jU.A V9.jU.n V9.jU.c) (.slice V9.jW.A V9.jW.n V9.jW.c) (.slice V9.ext.A V9.ext.n V9.ext.c) (.slice V9.maps.A V9.maps.n V9.maps.c) (.slice V9.dec.A V9.dec.n V9.dec.c) (.slice V9.exc.A V9.exc.n V9.exc.c) (.slice V9.jY.A V9.jY.n V9.jY.c));have yX:=jP (Si.1.step (ade (g:=w.heap.size+1) (by omega) (.slice V9.cat.A V9.cat.n V9.cat.c) (.slice V9.cls.A V9.cls.n V9.cls.c) (.slice V9.ku.A V9.ku.n V9.ku.c) (.slice V9.jX.A V9.jX.n V9.jX.c) (.slice V9.scr.A V9.scr.n V9.scr.c) (.slice V9.jU.A V9.jU.n V9.jU.c) (.slice V9.jW.A V9.jW.n V9.jW.c) (.slice V9.ext.A V9.ext.n V9.ext.c) (.slice V9.maps.A V9.maps.n V9.maps.c) (.slice V9.dec.A V9.dec.n V9.dec.c) (.slice V9.exc.A V9.exc.n V9.exc.c) (.slice V9.jY.A V9.jY.n V9.jY.c)) (by rw[Jh];exact ag _));go_wp2_with fail
     have hsf:=Jh (x:=w4.setCell ⟨w.heap.size,10,none⟩ (.slice A4 sn c4)) (g:=w.heap.size+1) (.slice V9.cat.A V9.cat.n V9.cat.c) (.slice V9.cls.A V9.cls.n V9.cls.c) (.slice V9.ku.A V9.ku.n V9.ku.c) (.slice V9.jX.A V9.jX.n V9.jX.c) (.slice V9.scr.A V9.scr.n V9.scr.c) (.slice V9.jU.A V9.jU.n V9.jU.c) (.slice V9.jW.A V9.jW.n V9.jW.c) (.slice V9.ext.A V9.ext.n V9.ext.c) (.slice V9.maps.A V9.maps.n V9.maps.c) (.slice V9.dec.A V9.dec.n V9.dec.c) (.slice V9.exc.A V9.exc.n V9.exc.c) (.slice V9.jY.A V9.jY.n V9.jY.c);refine aS (fP (P:=Tryz.prog) (p:=2) (ty:=26) rfl _ _ (w.heap.size+1) _ _ _ _ rfl HE.1 Tryz.underlying26 rfl (by kernel_rfl)) rfl ?_;refine⟨V9,rfl,?_,zN.1⟩;rw[hsf];have hfe:(w4.setCell ⟨w.heap.size,10,none⟩ (.slice A4 sn c4)).heap.size=w4.heap.size:=by simp[World.setCell]
     exact yX.1
end
end Go.Proofs.YtkachcflifhgiaaGreatDoor
namespace Go.Proofs.YtkachcflifhgiaaGreatDoor
open Go Go.RowKit Go.Shelf
theorem OB (v:Int)(w:World):Calls Tryz.prog 170 #[.int .i64 v] w fun e w'=>e=.returned (.bool (Dm.tick v))/\w'=w:=by
 unfold Dm.tick;by_cases h1:0<=v
 ·by_cases h2:v<=1073741824
  ·have hv:decide (0<=v/\v<=1073741824)=true:=bT ⟨h1,h2⟩;rw[hv];go_enter Tryz.func170,Tryz.ntmps170
   go_wp2_with fail
   go_ret
   exact⟨rfl,rfl⟩
  ·have hv:decide (0<=v/\v<=1073741824)=false:=bD (by omega);rw[hv];go_enter Tryz.func170,Tryz.ntmps170
   go_wp2_with fail
   go_ret
   exact⟨rfl,rfl⟩
 ·have hv:decide (0<=v/\v<=1073741824)=false:=bD (by omega);rw[hv];go_enter Tryz.func170,Tryz.ntmps170
  go_wp2_with fail
  go_ret
  exact⟨rfl,rfl⟩
theorem Dm.Io {v:Int}(h0:0<=v)(h1:v<=1073741824):Dm.tick v=true:=bT ⟨h0,h1⟩
theorem ajq (now n:Int)(h0:0<=now)(h1:now<=1073741824)(w:World):Calls Tryz.prog 105 #[.int .i64 now,.int .i64 n] w fun e w'=>e=.returned (.int .i64 (Dm.advance now n))/\w'=w:=by
 have ht:=Dm.Io h0 h1;have HT:=jP (fun w=>OB now w);rw[ht] at HT;by_cases h2:n<0
 ·have hv:Dm.advance now n=now:=by unfold Dm.advance;rw[ht,ah (by simp),aj h2]
  rw[hv];clear ht;go_enter Tryz.func105,Tryz.ntmps105
  go_wp2_with fail
  refine (HT.1 _).mono ?_;rintro e w1 ⟨rfl,rfl⟩;go_wp2_with fail
  go_ret
  exact⟨rfl,rfl⟩
 ·by_cases h3:1073741824-now<n
  ·have hv:Dm.advance now n=1073741824:=by unfold Dm.advance;rw[ht,ah (by simp),ah h2,aj h3]
   rw[hv];clear ht;go_enter Tryz.func105,Tryz.ntmps105
   go_wp2_with fail
   refine (HT.1 _).mono ?_;rintro e w1 ⟨rfl,rfl⟩;go_wp2_with fail
   go_ret
   exact⟨rfl,rfl⟩
  ·have hv:Dm.advance now n=now+n:=by unfold Dm.advance;rw[ht,ah (by simp),ah h2,ah h3]
   rw[hv];clear ht;go_enter Tryz.func105,Tryz.ntmps105
   go_wp2_with fail
   refine (HT.1 _).mono ?_;rintro e w1 ⟨rfl,rfl⟩;go_wp2_with fail
   go_ret
   exact⟨rfl,rfl⟩
theorem QI (now ttl:Int)(h0:0<=now)(h1:now<=1073741824)(t0:1<=ttl)(t1:ttl<=1073741824)(w:World) :
  Calls Tryz.prog 266 #[.int .i64 now,.int .i64 ttl] w fun e w'=>e=.returned (.tuple #[.int .i64 (Dm.deadline now ttl).1,.int .i64 (Dm.deadline now ttl).2])/\w'=w:=by
 have ht:=Dm.Io h0 h1;have HT:=jP (fun w=>OB now w);rw[ht] at HT;by_cases h3:1073741824-now<ttl
 ·have hv:Dm.deadline now ttl=(0,8):=by unfold Dm.deadline;rw[ht,ah (by simp;omega),aj h3]
  rw[hv];have q1:decide (ttl<1)=false:=bD (by omega);have q2:decide (1073741824<ttl)=false:=bD (by omega);have q3:¬ttl<1:=by omega
  clear ht;go_enter Tryz.func266,Tryz.ntmps266
  go_wp2_with fail
  refine (HT.1 _).mono ?_;rintro e w1 ⟨rfl,rfl⟩;go_wp2_with fail
  go_ret2
  exact⟨rfl,rfl⟩
 ·have hv:Dm.deadline now ttl=(now+ttl,0):=by unfold Dm.deadline;rw[ht,ah (by simp;omega),ah h3]
  rw[hv];have q1:decide (ttl<1)=false:=bD (by omega);have q2:decide (1073741824<ttl)=false:=bD (by omega);have q3:¬ttl<1:=by omega
  clear ht;go_enter Tryz.func266,Tryz.ntmps266
  go_wp2_with fail
  refine (HT.1 _).mono ?_;rintro e w1 ⟨rfl,rfl⟩;go_wp2_with fail
  go_ret2
  exact⟨rfl,rfl⟩
def Rc.cells (r:Rc):List Value:=[.int .i64 r.st,.int .i64 r.ow,.string r.nm,.int .i64 r.dl]
@[reducible] def m_ (a b:Int)(s:ByteArray)(d:Int):Array Value:=#[.int .i64 a,.int .i64 b,.string s,.int .i64 d]
def Rc.arr (r:Rc):Array Value:=m_ r.st r.ow r.nm r.dl
theorem ahZ (w:World)(a b:Int)(s:ByteArray)(d:Int):(w.alloc (.cells (m_ a b s d) 41)).cell? ⟨w.heap.size,0,none⟩=some (.int .i64 a)/\(w.alloc (.cells (m_ a b s d) 41)).cell? ⟨w.heap.size,1,none⟩=some (.int .i64 b) /\
  (w.alloc (.cells (m_ a b s d) 41)).cell? ⟨w.heap.size,2,none⟩=some (.string s)/\(w.alloc (.cells (m_ a b s d) 41)).cell? ⟨w.heap.size,3,none⟩=some (.int .i64 d):=
 ⟨(Bk.new w _ _).cell 0,(Bk.new w _ _).cell 1,(Bk.new w _ _).cell 2,(Bk.new w _ _).cell 3⟩
structure FN (w:World)(r:Rc)(x:World):Prop where
 bk:Bk x w.heap.size 41 (m_ r.st r.ow r.nm r.dl)
 bl:Below w.heap.size w x
theorem FN.start (w:World)(r:Rc):FN w r (w.alloc (.cells (m_ r.st r.ow r.nm r.dl) 41)):=⟨Bk.new w _ _,(ai _ _).alloc (ag _) _⟩
theorem FN.step {w x y:World}{r:Rc}(h:FN w r x)(hb:Below x.heap.size x y):FN w r y:=⟨h.bk.below hb h.bk.lt,h.bl.trans (hb.mono h.bl.size)⟩
theorem FN.conj {w x:World}{r:Rc}(h:FN w r x):x.cell? ⟨w.heap.size,0,none⟩=some (.int .i64 r.st)/\x.cell? ⟨w.heap.size,1,none⟩=some (.int .i64 r.ow)/\x.cell? ⟨w.heap.size,2,none⟩=some (.string r.nm)/\x.cell? ⟨w.heap.size,3,none⟩=some (.int .i64 r.dl):=⟨h.bk.cell 0,h.bk.cell 1,h.bk.cell 2,h.bk.cell 3⟩
theorem PY (r:Rc)(now:Int)(w:World):Calls Tryz.prog 269 #[.agg r.arr,.int .i64 now] w fun e w'=>e=.returned (.bool (r.live now))/\Below w.heap.size w w':=by
 have hl:r.live now=decide (r.st=2\/r.st=1/\now<r.dl):=rfl;rw[hl];have HR:=jP (FN.start w r);unfold Rc.arr;clear hl;obtain⟨a,b,s,d⟩:=r;dsimp only;obtain⟨x0,x1,x2,x3⟩:=HR.1.conj;by_cases h2:a=2
 ·subst h2;have hv:decide ((2:Int)=2\/(2:Int)=1/\now<d)=true:=by simp
  rw[hv];go_enter Tryz.func269,Tryz.ntmps269
  go_wp2_with fail
  go_ret
  exact⟨rfl,HR.1.bl⟩
 ·have q2:(a==2)=false:=by simpa using h2
  by_cases h1:a=1
  ·subst h1;have hv:decide ((1:Int)=2\/(1:Int)=1/\now<d)=decide (now<d):=by simp
   rw[hv];go_enter Tryz.func269,Tryz.ntmps269
   go_wp2_with fail
   go_ret
   exact⟨rfl,HR.1.bl⟩
  ·have q1:(a==1)=false:=by simpa using h1
   have hv:decide (a=2\/a=1/\now<d)=false:=bD (by omega);rw[hv];clear hv h1 h2;go_enter Tryz.func269,Tryz.ntmps269
   go_wp2_with fail
   go_ret
   exact⟨rfl,HR.1.bl⟩
theorem MN (r:Rc)(state client now:Int)(w:World):Calls Tryz.prog 306 #[.agg r.arr,.int .i64 state,.int .i64 client,.int .i64 now] w fun e w'=>e=.returned (.int .i64 (Dm.owned r state client now))/\Below w.heap.size w w':=by
 have HR:=jP (FN.start w r);have HL:=jP (fun w=>PY r now w);have HO:=jP (show Dm.owned r state client now=if r.live now=false then 23 else if r.ow≠client then 25 else if r.st≠state then 26 else 0 from rfl);generalize Dm.owned r state client now=u at *;generalize r.live now=lv at *;unfold Rc.arr at *;obtain⟨x0,x1,x2,x3⟩:=HR.1.conj;go_enter Tryz.func306,Tryz.ntmps306
 go_wp2_with fail
 clear x0 x1 x2 x3;refine (HL.1 _).mono ?_;rintro e w1 ⟨rfl,hb⟩;have HR1:=jP (HR.1.step hb);clear hb HR HL;obtain⟨x0,x1,x2,x3⟩:=HR1.1.conj;generalize r.ow=ow at *;generalize r.st=st at *;cases lv with
 | false=>
  have HX:=jP (show u=23 by rw[HO.1,aj rfl]);clear HO;go_wp2_with fail
  go_ret
  rw[HX.1];exact⟨rfl,HR1.1.bl⟩
 | true=>
  by_cases h1:ow=client
  ·by_cases h2:st=state
   ·have HX:=jP (show u=0 by rw[HO.1,ah (by simp),ah (by simpa using h1),ah (by simpa using h2)]);have q1:(ow != client)=false:=by simpa using h1
    have q2:(st != state)=false:=by simpa using h2
    clear HO h1 h2;go_wp2_with fail
    go_ret
    rw[HX.1];exact⟨rfl,HR1.1.bl⟩
   ·have HX:=jP (show u=26 by rw[HO.1,ah (by simp),ah (by simpa using h1),aj h2]);have q1:(ow != client)=false:=by simpa using h1
    have q2:(st != state)=true:=by simpa using h2
    clear HO h1 h2;go_wp2_with fail
    go_ret
    rw[HX.1];exact⟨rfl,HR1.1.bl⟩
  ·have HX:=jP (show u=25 by rw[HO.1,ah (by simp),aj h1]);have q1:(ow != client)=true:=by simpa using h1
   clear HO h1;go_wp2_with fail
   go_ret
   rw[HX.1];exact⟨rfl,HR1.1.bl⟩
theorem aaY (r:Rc)(op client now:Int)(h1:1<=op)(h7:op<=7)(w:World):Calls Tryz.prog 267 #[.agg r.arr,.int .i64 op,.int .i64 client,.int .i64 now] w fun e w'=>e=.returned (.int .i64 (Dm.test r op client now))/\Below w.heap.size w w':=by
 have HR:=jP (FN.start w r);have HL:=jP (fun w=>PY r now w);have nT:=jP (fun w=>MN r 1 client now w);have lG:=jP (fun w=>MN r 2 client now w);unfold Rc.arr at *;obtain⟨x0,x1,x2,x3⟩:=HR.1.conj;have hop:op=1\/op=2\/op=3\/op=4\/op=5\/op=6\/op=7:=by omega
 clear h1 h7;rcases hop with rfl | rfl | rfl | rfl | rfl | rfl | rfl
 ·have HX:=jP (show Dm.test r 1 client now=if r.live now=true then 24 else 0 from rfl);generalize Dm.test r 1 client now=u at *;generalize r.live now=lv at *;go_enter jc,iP
  go_wp2_with fail
  clear x0 x1 x2 x3;refine (HL.1 _).mono ?_;rintro e w1 ⟨rfl,hb⟩;have HR1:=jP (HR.1.step hb);clear hb;cases lv with
  | true=>
   have HY:=jP (show u=24 by rw[HX.1,aj rfl]);go_wp2_with fail
   go_ret
   rw[HY.1];exact⟨rfl,HR1.1.bl⟩
  | false=>
   have HY:=jP (show u=0 by rw[HX.1,ah (by simp)]);go_wp2_with fail
   go_ret
   rw[HY.1];exact⟨rfl,HR1.1.bl⟩
 ·have HX:=jP (show Dm.test r 2 client now=Dm.owned r 1 client now from rfl);go_enter jc,iP
  go_wp2_with fail
  clear x0 x1 x2 x3;refine (nT.1 _).mono ?_;rintro e w1 ⟨rfl,hb⟩;have HR1:=jP (HR.1.step hb);clear hb;go_wp2_with fail
  go_ret
  rw[HX.1];exact⟨rfl,HR1.1.bl⟩
 ·have HX:=jP (show Dm.test r 3 client now=Dm.owned r 1 client now from rfl);go_enter jc,iP
  go_wp2_with fail
  clear x0 x1 x2 x3;refine (nT.1 _).mono ?_;rintro e w1 ⟨rfl,hb⟩;have HR1:=jP (HR.1.step hb);clear hb;go_wp2_with fail
  go_ret
  rw[HX.1];exact⟨rfl,HR1.1.bl⟩
 ·have HX:=jP (show Dm.test r 4 client now=Dm.owned r 1 client now from rfl);go_enter jc,iP
  go_wp2_with fail
  clear x0 x1 x2 x3;refine (nT.1 _).mono ?_;rintro e w1 ⟨rfl,hb⟩;have HR1:=jP (HR.1.step hb);clear hb;go_wp2_with fail
  go_ret
  rw[HX.1];exact⟨rfl,HR1.1.bl⟩
 ·have HX:=jP (show Dm.test r 5 client now=Dm.owned r 2 client now from rfl);go_enter jc,iP
  go_wp2_with fail
  clear x0 x1 x2 x3;refine (lG.1 _).mono ?_;rintro e w1 ⟨rfl,hb⟩;have HR1:=jP (HR.1.step hb);clear hb;go_wp2_with fail
  go_ret
  rw[HX.1];exact⟨rfl,HR1.1.bl⟩
 ·have HX:=jP (show Dm.test r 6 client now=if r.st=0 then 23 else if r.live now=true then 26 else 0 from rfl);generalize Dm.test r 6 client now=u at *;generalize r.live now=lv at *;generalize r.st=st at *;by_cases h0:st=0
  ·have HY:=jP (show u=23 by rw[HX.1,aj h0]);subst h0;clear HX;go_enter jc,iP
   go_wp2_with fail
   go_ret
   rw[HY.1];exact⟨rfl,HR.1.bl⟩
  ·have lV:=jP (show u=if lv=true then 26 else 0 by rw[HX.1,ah h0]);have q0:(st==0)=false:=by simpa using h0
   clear HX h0;go_enter jc,iP
   go_wp2_with fail
   clear x0 x1 x2 x3;refine (HL.1 _).mono ?_;rintro e w1 ⟨rfl,hb⟩;have HR1:=jP (HR.1.step hb);clear hb;cases lv with
   | true=>
    have HY:=jP (show u=26 by rw[lV.1,aj rfl]);go_wp2_with fail
    go_ret
    rw[HY.1];exact⟨rfl,HR1.1.bl⟩
   | false=>
    have HY:=jP (show u=0 by rw[lV.1,ah (by simp)]);go_wp2_with fail
    go_ret
    rw[HY.1];exact⟨rfl,HR1.1.bl⟩
 ·go_enter jc,iP
  go_wp2_with fail
  go_ret
  exact⟨rfl,HR.1.bl⟩
theorem ZA (r:Rc)(op:Int)(h1:1<=op)(h7:op<=7)(w:World):Calls Tryz.prog 224 #[.agg r.arr,.int .i64 op] w fun e w'=>e=.returned (.int .i64 (Dm.grows r op))/\Below w.heap.size w w':=by
 have HR:=jP (FN.start w r);unfold Rc.arr at *;obtain⟨x0,x1,x2,x3⟩:=HR.1.conj;have hop:op=1\/op=2\/op=3\/op=4\/op=5\/op=6\/op=7:=by omega
 clear h1 h7;have HZ1:=jP (show Dm.grows r 1=if r.st=0 then 1 else 0 from rfl);have HZ4:=jP (show Dm.grows r 4=if r.st=0 then 0 else -1 from rfl);have HZ5:=jP (show Dm.grows r 5=if r.st=0 then 0 else -1 from rfl);have nG:=jP (show Dm.grows r 6=if r.st=0 then 0 else -1 from rfl);have HZ2:=jP (show Dm.grows r 2=0 from rfl);have HZ3:=jP (show Dm.grows r 3=0 from rfl);have pz:=jP (show Dm.grows r 7=0 from rfl);rcases hop with rfl | rfl | rfl | rfl | rfl | rfl | rfl
 ·rw[HZ1.1];generalize r.st=st at *;by_cases h0:st=0
  ·rw[aj h0];subst h0;go_enter gG,fV
   go_wp2_with fail
   go_ret
   exact⟨rfl,HR.1.bl⟩
  ·rw[ah h0];have q0:(st==0)=false:=by simpa using h0
   have q1:(st != 0)=true:=by simpa using h0
   clear h0;go_enter gG,fV
   go_wp2_with fail
   go_ret
   exact⟨rfl,HR.1.bl⟩
 ·rw[HZ2.1];go_enter gG,fV
  go_wp2_with fail
  go_ret
  exact⟨rfl,HR.1.bl⟩
 ·rw[HZ3.1];go_enter gG,fV
  go_wp2_with fail
  go_ret
  exact⟨rfl,HR.1.bl⟩
 ·rw[HZ4.1];generalize r.st=st at *;by_cases h0:st=0
  ·rw[aj h0];subst h0;go_enter gG,fV
   go_wp2_with fail
   go_ret
   exact⟨rfl,HR.1.bl⟩
  ·rw[ah h0];have q0:(st==0)=false:=by simpa using h0
   have q1:(st != 0)=true:=by simpa using h0
   clear h0;go_enter gG,fV
   go_wp2_with fail
   go_ret
   exact⟨rfl,HR.1.bl⟩
 ·rw[HZ5.1];generalize r.st=st at *;by_cases h0:st=0
  ·rw[aj h0];subst h0;go_enter gG,fV
   go_wp2_with fail
   go_ret
   exact⟨rfl,HR.1.bl⟩
  ·rw[ah h0];have q0:(st==0)=false:=by simpa using h0
   have q1:(st != 0)=true:=by simpa using h0
   clear h0;go_enter gG,fV
   go_wp2_with fail
   go_ret
   exact⟨rfl,HR.1.bl⟩
 ·rw[nG.1];generalize r.st=st at *;by_cases h0:st=0
  ·rw[aj h0];subst h0;go_enter gG,fV
   go_wp2_with fail
   go_ret
   exact⟨rfl,HR.1.bl⟩
  ·rw[ah h0];have q0:(st==0)=false:=by simpa using h0
   have q1:(st != 0)=true:=by simpa using h0
   clear h0;go_enter gG,fV
   go_wp2_with fail
   go_ret
   exact⟨rfl,HR.1.bl⟩
 ·rw[pz.1];go_enter gG,fV
  go_wp2_with fail
  go_ret
  exact⟨rfl,HR.1.bl⟩
def KN (x:Int)(b:UInt8):Int:=bits BinOp.xor IntKind.u32 x ((b.toNat:Int)%4294967296)*16777619%4294967296
def xP (l:List UInt8):Int:=l.foldl KN 2166136261
theorem L8 (l:List UInt8)(b:UInt8):xP (l++[b])=KN (xP l) b:=by simp[xP]
theorem aeC (x:Int)(b:UInt8):0<=KN x b/\KN x b<4294967296:=by
 unfold KN;exact⟨jm _ (by decide),iG _ (by decide)⟩
theorem KL (l:List UInt8):0<=xP l/\xP l<4294967296:=by
 rcases List.eq_nil_or_concat l with rfl | ⟨m,b,rfl⟩
 ·decide
 ·rw[List.concat_eq_append,L8];exact aeC _ _
theorem sum_any (s:ByteArray)(hs:s.size<=1000000)(w:World):Calls Tryz.prog 281 #[.string s] w fun e w'=>e=.returned (.int .i64 (xP (lst s)))/\Below w.heap.size w w':=by
 obtain⟨cc,w2,hcv,uu,hsz2,hcc,hcells,hfz⟩:=uw s w;have HB:=jP uu;have NV:=jP hcells;clear uu hcells hfz;go_enter Tryz.func281,Tryz.ntmps281
 go_wp2_with fail
 go_loop [3,9] (fun vx vi=>∃ (k:Nat),k<=s.size/\vi=.int .i64 k/\vx=.int .u32 (xP ((lst s).take k))) (fun _ vi=>s.size-(intOf vi).toNat)
 case atStart=>exact⟨0,by omega,rfl,rfl⟩
 case round=>
  obtain⟨k,hk,rfl,rfl⟩:=hrel;by_cases hlt:k<s.size
  ·have hat:=wH s k hlt;have hcell:=NV.1 k s[k] hat;have hst:xP ((lst s).take (k+1))=KN (xP ((lst s).take k)) s[k]:=by
    obtain⟨q1,q2⟩:=ak.1 hat;rw[az q1,q2,L8]
   have HS:=jP hst;clear hst hat;go_wp2_with fail
   go_round
   case rel=>exact⟨k+1,by omega,by go_num,by rw[HS.1];rfl⟩
   case measure=>simp[intOf];omega
  ·obtain rfl:k=s.size:=by omega
   rw[aP (by rw[jV];omega)];obtain⟨b0,b1⟩:=KL (lst s);generalize hy:xP (lst s)=y at *;have HY:=jP hy;clear hy;go_wp2
   go_ret
   exact⟨by rw[HY.1];rfl,HB.1⟩
def oU (k:ByteArray)(n:Nat):Nat:=(xP (lst k)).toNat%n
theorem yj (k:ByteArray)(n:Nat)(h:0<n):oU k n<n:=Nat.mod_lt _ h
theorem acf (k:ByteArray)(hs:k.size<=1000000)(n:Nat)(h:0<n)(hn:n<=1000000)(w:World):Calls Tryz.prog 234 #[.string k,.int .i64 (n:Int)] w fun e w'=>e=.returned (.int .i64 (oU k n:Nat))/\Below w.heap.size w w':=by
 have HS:=jP (fun w=>sum_any k hs w);have he:((oU k n:Nat):Int)=xP (lst k)%(n:Int):=by
  unfold oU;have:=(KL (lst k)).1;rw[Int.natCast_emod,Int.toNat_of_nonneg this]
 have HE:=jP he;obtain⟨b0,b1⟩:=KL (lst k);generalize xP (lst k)=y at *;generalize oU k n=z at *;have h1:(1:Int)<=n:=by omega
 clear he;go_enter Tryz.func234,Tryz.ntmps234
 go_wp2_with fail
 refine (HS.1 _).mono ?_;rintro e w1 ⟨rfl,hb⟩;have HB:=jP hb;clear hb;go_wp2_with fail
 go_ret
 exact⟨by rw[HE.1];rfl,HB.1⟩
def zB (S:List kU):List Value:=S.flatMap fun s=>[.bool s.u,.string s.k]
def yI (S:List kU):Array Value:=(zB S).toArray
theorem aeJ (S:List kU):(zB S).length=S.length*2:=by
 induction S with
 | nil=>rfl
 | cons a r ih=>simp[zB] at *;omega
theorem Yf (S:List kU):∀ (i:Nat) (s:kU),S[i]?=some s->(zB S)[i*2]?=some (.bool s.u)/\(zB S)[i*2+1]?=some (.string s.k):=by
 induction S with
 | nil=>intro i s h;simp at h
 | cons a r ih=>
  intro i s h;have e:zB (a::r)=.bool a.u::.string a.k::zB r:=by simp[zB]
  rw[e];cases i with
  | zero=>simp at h;subst h;exact⟨rfl,rfl⟩
  | succ i=>
   simp at h;obtain⟨h1,h2⟩:=ih i s h;rw[show (i+1)*2=i*2+1+1 by omega];exact⟨h1,h2⟩
theorem aeI (S:List kU):∀ (i:Nat) (s:kU),((zB S).set (i*2) (.bool s.u)).set (i*2+1) (.string s.k)=zB (S.set i s):=by
 induction S with
 | nil=>intro i s;simp[zB]
 | cons a r ih=>
  intro i s;have e:∀ (b:kU) (q:List kU),zB (b::q)=.bool b.u::.string b.k::zB q:=fun b q=>by simp[zB]
  rw[e];cases i with
  | zero=>simp[e]
  | succ i=>
   rw[show (i+1)*2=i*2+1+1 by omega,aC,aC,aC,aC,aC,ih i s,e]
def pR (w:World)(g:Nat)(S:List kU):Prop:=Bk w g 225 (yI S)
section
variable {w w':World} {g:Nat} {S:List kU}
theorem pR.lt (h:pR w g S):g<w.heap.size:=Bk.lt h
theorem pR.cell (h:pR w g S){i:Nat}{s:kU}(hi:S[i]?=some s):w.cell? ⟨g,i*2,none⟩=some (.bool s.u)/\w.cell? ⟨g,i*2+1,none⟩=some (.string s.k):=by
 obtain⟨h1,h2⟩:=Yf S i s hi;refine⟨?_,?_⟩
 ·rw[Bk.cell h];simpa[yI] using h1
 ·rw[Bk.cell h];simpa[yI] using h2
theorem pR.frozen (h:pR w g S)(i:Nat):w.frozen? ⟨g,i,none⟩=false:=Bk.frozen h i
theorem pR.set (h:pR w g S)(i:Nat)(s:kU):pR ((w.setCell ⟨g,i*2,none⟩ (.bool s.u)).setCell ⟨g,i*2+1,none⟩ (.string s.k)) g (S.set i s):=by
 have h2:=Bk.kM (Bk.kM h (i*2) (.bool s.u)) (i*2+1) (.string s.k);unfold pR;rw[show yI (S.set i s)=((yI S).setIfInBounds (i*2) (.bool s.u)).setIfInBounds (i*2+1) (.string s.k) by
  unfold yI;rw[<-aeI S i s];simp]
 exact h2
theorem pR.below {B:Nat}(h:pR w g S)(hb:Below B w w')(hg:g<B):pR w' g S:=Bk.below h hb hg
theorem pR.far (h:pR w g S){p:Addr}(hp:g≠p.block)(u:Value):pR (w.setCell p u) g S:=Bk.far h hp u
end
def qH (n:Nat)(k:ByteArray):Nat:=oU k n
theorem yw (g c n:Nat)(S:List kU)(key:ByteArray)(w:World)(hS:pR w g S)(hl:S.length=n)(hn0:0<n)(hn:n<=100000)(hk:key.size<=1000000)(z:Nat)(hz:z<n)(hfree:(Sl.gt S z).u=false) :
  Calls Tryz.prog 174 #[.slice (some ⟨g,0,none⟩) n c,.string key] w fun e w'=>e=.returned (.tuple #[.int .i64 ((Sl.find (qH n) S key).1:Nat),.bool (Sl.find (qH n) S key).2])/\Below w.heap.size w w':=by
 have HH:=jP (fun w=>acf key hk n hn0 (by omega) w);have hfs:Sl.find (qH n) S key=Sl.probe S key (n+1) (oU key n):=by unfold Sl.find qH;rw[hl]
 rw[hfs];have hh:=yj key n hn0;generalize oU key n=h0 at *;have HS:=jP hS;have HF:=jP hfree;have HL:=jP hl;clear hS hfree hl hfs;go_enter Tryz.func174,Tryz.ntmps174
 go_wp2_with fail
 refine (HH.1 _).mono ?_;rintro e w1 ⟨rfl,hb1⟩;have Bq:=jP (HS.1.below hb1 HS.1.lt);have HB1:=jP hb1;clear hb1;go_wp2_with fail
 go_loop [6] (fun vi=>∃ (i f:Nat),i<n/\vi=.int .i64 (i:Nat)/\Sl.ds n i z<f/\Sl.probe S key (n+1) h0=Sl.probe S key f i) (fun vi=>Sl.ds n (intOf vi).toNat z)
 case atStart=>exact⟨h0,n+1,hh,rfl,by have:=Sl.Xp hh hz;omega,rfl⟩
 case round=>
  obtain⟨i,f,hi,rfl,hd,hp⟩:=hrel;have HP:=jP hp;clear hp;obtain⟨f,rfl⟩:∃ q,f=q+1:=⟨f-1,by omega⟩;have RF:=jP (show Sl.probe S key (f+1) i=if (Sl.gt S i).u=true then (if (Sl.gt S i).k=key then (i,true) else Sl.probe S key f (Sl.sc S.length i)) else (i,false) from rfl);have hs:=Sl.ajM (S:=S) (i:=i) (by rw[HL.1];exact hi);obtain⟨c0,c1⟩:=Bq.1.cell hs;have hiz:=jP (show (Sl.gt S i).u=true->i≠z from fun h e=>by rw[e,HF.1] at h;cases h);clear hs;generalize Sl.gt S i=s at *;cases hu:s.u
  ·have HR:=jP (HP.1.trans (RF.1.trans (by rw[hu,ah (by simp)])));rw[hu] at c0;clear hu;go_wp2_with fail
   go_ret2
   exact⟨by rw[HR.1];rfl,HB1.1⟩
  ·rw[hu] at c0;by_cases hkk:s.k=key
   ·have HR:=jP (HP.1.trans (RF.1.trans (by rw[hu,aj rfl,aj hkk])));rw[hkk] at c1;clear hu hkk;have hkb:(key.toList==key.toList)=true:=by simp
    go_wp2_with fail
    go_ret2
    exact⟨by rw[HR.1];rfl,HB1.1⟩
   ·have HR:=jP (HP.1.trans (RF.1.trans (by rw[hu,aj rfl,ah hkk])));have hne:=hiz.1 hu;have hds:=Sl.GK hi hz hne;have hkn:(s.k.toList==key.toList)=false:=by rw[aX];exact fun e=>hkk (toList_inj e)
    have hmm:(((i:Int)+1)%(n:Int))=((Sl.sc n i:Nat):Int):=by
     unfold Sl.sc;split
     ·rename_i h;rw[show ((i:Int)+1)=(n:Int) by omega,Int.emod_self];rfl
     ·rw[Int.emod_eq_of_lt (by omega) (by omega)];rfl
    have hml:Sl.sc n i<n:=Sl.VZ hi;have HD:=jP hds;have pU:=jP hmm;clear hu hkk hds hmm hne;go_wp2_with fail
    rw[pU.1];go_round
    case rel=>exact⟨Sl.sc n i,f,hml,rfl,by have:=HD.1;omega,by rw[HR.1,HL.1]⟩
    case measure=>have:=HD.1;simp only[intOf,bU];omega
def nH (R:List Rc):List Value:=R.flatMap Rc.cells
def En (R:List Rc):Array Value:=(nH R).toArray
theorem Aq (a:Rc)(r:List Rc):nH (a::r)=.int .i64 a.st::.int .i64 a.ow::.string a.nm::.int .i64 a.dl::nH r:=by simp[nH,Rc.cells]
theorem aeX (R:List Rc):(nH R).length=R.length*4:=by
 induction R with
 | nil=>rfl
 | cons a r ih=>rw[Aq];simp only[dX,ih];omega
theorem Yw (R:List Rc):∀ (i:Nat) (r:Rc),R[i]?=some r->(nH R)[i*4]?=some (.int .i64 r.st)/\(nH R)[i*4+1]?=some (.int .i64 r.ow)/\(nH R)[i*4+2]?=some (.string r.nm)/\(nH R)[i*4+3]?=some (.int .i64 r.dl):=by
 induction R with
 | nil=>intro i s h;simp at h
 | cons a r ih=>
  intro i s h;rw[Aq];cases i with
  | zero=>simp at h;subst h;exact⟨rfl,rfl,rfl,rfl⟩
  | succ i=>
   simp at h;obtain⟨h1,h2,h3,h4⟩:=ih i s h;rw[show (i+1)*4=i*4+1+1+1+1 by omega];exact⟨h1,h2,h3,h4⟩
theorem aeW (R:List Rc):∀ (i:Nat) (s:Rc),((((nH R).set (i*4) (.int .i64 s.st)).set (i*4+1) (.int .i64 s.ow)).set (i*4+2) (.string s.nm)).set (i*4+3) (.int .i64 s.dl)=nH (R.set i s):=by
 induction R with
 | nil=>intro i s;simp[nH]
 | cons a r ih=>
  intro i s;rw[Aq];cases i with
  | zero=>simp[Aq]
  | succ i=>
   rw[show (i+1)*4=i*4+1+1+1+1 by omega];simp only[aC,show ∀ a b:Nat,a+1+1+1+1+b=(a+b)+1+1+1+1 by omega,ih i s,Aq]
def vH (w:World)(g:Nat)(R:List Rc):Prop:=Bk w g 41 (En R)
section
variable {w w':World} {g:Nat} {R:List Rc}
theorem vH.lt (h:vH w g R):g<w.heap.size:=Bk.lt h
theorem vH.cell (h:vH w g R){i:Nat}{s:Rc}(hi:R[i]?=some s):w.cell? ⟨g,i*4,none⟩=some (.int .i64 s.st)/\w.cell? ⟨g,i*4+1,none⟩=some (.int .i64 s.ow)/\w.cell? ⟨g,i*4+2,none⟩=some (.string s.nm)/\w.cell? ⟨g,i*4+3,none⟩=some (.int .i64 s.dl):=by
 obtain⟨h1,h2,h3,h4⟩:=Yw R i s hi;refine⟨?_,?_,?_,?_⟩<;>rw[Bk.cell h]<;>simp only[En,bK]<;>assumption
theorem vH.frozen (h:vH w g R)(i:Nat):w.frozen? ⟨g,i,none⟩=false:=Bk.frozen h i
theorem vH.set (h:vH w g R)(i:Nat)(s:Rc):vH ((((w.setCell ⟨g,i*4,none⟩ (.int .i64 s.st)).setCell ⟨g,i*4+1,none⟩ (.int .i64 s.ow)).setCell ⟨g,i*4+2,none⟩ (.string s.nm)).setCell ⟨g,i*4+3,none⟩ (.int .i64 s.dl)) g (R.set i s):=by
 have h2:=Bk.kM (Bk.kM (Bk.kM (Bk.kM h (i*4) (.int .i64 s.st)) (i*4+1) (.int .i64 s.ow)) (i*4+2) (.string s.nm)) (i*4+3) (.int .i64 s.dl);unfold vH;rw[show En (R.set i s)=((((En R).setIfInBounds (i*4) (.int .i64 s.st)).setIfInBounds (i*4+1) (.int .i64 s.ow)).setIfInBounds (i*4+2) (.string s.nm)).setIfInBounds (i*4+3) (.int .i64 s.dl) by
  unfold En;rw[<-aeW R i s];simp]
 exact h2
theorem vH.below {B:Nat}(h:vH w g R)(hb:Below B w w')(hg:g<B):vH w' g R:=Bk.below h hb hg
theorem vH.far (h:vH w g R){p:Addr}(hp:g≠p.block)(u:Value):vH (w.setCell p u) g R:=Bk.far h hp u
end
def rP (w:World)(g:Nat)(O:List Int):Prop:=Bk w g 3 (ints O).toArray
theorem rP.cell {w:World}{g:Nat}{O:List Int}(h:rP w g O){i:Nat}{c:Int}(hi:O[i]?=some c):w.cell? ⟨g,i,none⟩=some (.int .i64 c):=by
 rw[Bk.cell h];simp[ints,hi]
theorem rP.set {w:World}{g:Nat}{O:List Int}(h:rP w g O)(i:Nat)(c:Int):rP (w.setCell ⟨g,i,none⟩ (.int .i64 c)) g (O.set i c):=by
 have h2:=Bk.kM h i (.int .i64 c);unfold rP;rw[show (ints (O.set i c)).toArray=(ints O).toArray.setIfInBounds i (.int .i64 c) by simp[ints,List.map_set]];exact h2
theorem WO (n:Nat):madeCells #[.bool false,.string ⟨#[]⟩] (n*2)=yI (List.replicate n kU.none):=by
 apply Array.ext
 ·rw[size_madeCells];simp[yI,aeJ]
 ·intro i h1 h2;rw[size_madeCells] at h1;obtain⟨q,r,hr,rfl⟩:∃ q r,r<2/\i=q*2+r:=⟨i/2,i%2,Nat.mod_lt _ (by omega),by omega⟩;have hq:(List.replicate n kU.none)[q]?=some kU.none:=by rw[List.getElem?_replicate,aj (by omega)]
  obtain⟨e1,e2⟩:=Yf _ q _ hq;have hl:(madeCells #[.bool false,.string ⟨#[]⟩] (n*2))[q*2+r]=#[Value.bool false,.string ⟨#[]⟩][(q*2+r)%2]!:=by simp[madeCells]
  rw[hl];match r,hr with
  | 0,_=>
   have:(q*2+0)%2=0:=by omega
   rw[this];have:(zB (List.replicate n kU.none))[q*2]?=some ((yI (List.replicate n kU.none))[q*2+0]):=by
    rw[<-bK];exact fH h2
   rw[e1] at this;injection this with this
  | 1,_=>
   have:(q*2+1)%2=1:=by omega
   rw[this];have:(zB (List.replicate n kU.none))[q*2+1]?=some ((yI (List.replicate n kU.none))[q*2+1]):=by
    rw[<-bK];exact fH h2
   rw[e2] at this;injection this with this
theorem YV (n:Nat):madeCells #[.int .i64 0,.int .i64 0,.string ⟨#[]⟩,.int .i64 0] (n*4)=En (List.replicate n Rc.none):=by
 apply Array.ext
 ·rw[size_madeCells];simp[En,aeX]
 ·intro i h1 h2;rw[size_madeCells] at h1;obtain⟨q,r,hr,rfl⟩:∃ q r,r<4/\i=q*4+r:=⟨i/4,i%4,Nat.mod_lt _ (by omega),by omega⟩;have hq:(List.replicate n Rc.none)[q]?=some Rc.none:=by rw[List.getElem?_replicate,aj (by omega)]
  obtain⟨e1,e2,e3,e4⟩:=Yw _ q _ hq;have hl:(madeCells #[.int .i64 0,.int .i64 0,.string ⟨#[]⟩,.int .i64 0] (n*4))[q*4+r]=#[Value.int .i64 0,.int .i64 0,.string ⟨#[]⟩,.int .i64 0][(q*4+r)%4]!:=by simp[madeCells]
  have hx:(nH (List.replicate n Rc.none))[q*4+r]?=some ((En (List.replicate n Rc.none))[q*4+r]):=by
   rw[<-bK];exact fH h2
  rw[hl,show (q*4+r)%4=r by omega];match r,hr with
  | 0,_=>have hx:=e1.symm.trans hx;injection hx with hx
  | 1,_=>have hx:=e2.symm.trans hx;injection hx with hx
  | 2,_=>have hx:=e3.symm.trans hx;injection hx with hx
  | 3,_=>have hx:=e4.symm.trans hx;injection hx with hx
theorem abO (n:Nat):madeCells #[.int .i64 0] n=(ints (List.replicate n 0)).toArray:=by
 apply Array.ext
 ·rw[size_madeCells];simp[ints]
 ·intro i h1 h2;simp[madeCells,ints,Nat.mod_one]
theorem ab4:(Tryz.prog.info? 225).map (fun i=>(i.zero,i.size,i.bytes))=some (some (.agg #[.bool false,.string ⟨#[]⟩]),2,24):=by kernel_rfl
theorem IK:(Tryz.prog.info? 41).map (fun i=>(i.zero,i.size,i.bytes))=some (some (.agg #[.int .i64 0,.int .i64 0,.string ⟨#[]⟩,.int .i64 0]),4,40):=by kernel_rfl
def mM (n:Nat):List kU:=List.replicate n kU.none
def yA (n:Nat):List Rc:=List.replicate n Rc.none
def z_ (n:Nat):List Int:=List.replicate n 0
theorem PM (n:Nat)(hn:n<=100000)(w:World):(Instr.makeSlice 205 (.int .i64 (n:Int)) (.int .i64 (n:Int))).run Tryz.prog w=.ok (.slice (some ⟨w.heap.size,0,none⟩) n n) (w.alloc (.cells (yI (mM n)) 225)):=by
 obtain⟨i0,hi,hz0,hz1,hz2⟩:=dR ab4;have:=run_make (P:=Tryz.prog) w 205 225 i0 _ Tryz.underlying205 hi hz0 .i64 .i64 n n (by omega) (iZ _) (by rw[hz2];omega) (by omega);unfold mM;rw[this,hz1,bU,<-WO n];rfl
theorem afg (n:Nat)(hn:n<=100000)(w:World):(Instr.makeSlice 57 (.int .i64 (n:Int)) (.int .i64 (n:Int))).run Tryz.prog w=.ok (.slice (some ⟨w.heap.size,0,none⟩) n n) (w.alloc (.cells (En (yA n)) 41)):=by
 obtain⟨i0,hi,hz0,hz1,hz2⟩:=dR IK;have:=run_make (P:=Tryz.prog) w 57 41 i0 _ Tryz.underlying57 hi hz0 .i64 .i64 n n (by omega) (iZ _) (by rw[hz2];omega) (by omega);unfold yA;rw[this,hz1,bU,<-YV n];rfl
theorem agX (n:Nat)(hn:n<=100000)(w:World):(Instr.makeSlice 22 (.int .i64 (n:Int)) (.int .i64 (n:Int))).run Tryz.prog w=.ok (.slice (some ⟨w.heap.size,0,none⟩) n n) (w.alloc (.cells (ints (z_ n)).toArray 3)):=by
 unfold z_;rw[<-abO n];exact run_make_row' (P:=Tryz.prog) 22 3 (.int .i64 0) 8 bC AP rfl .i64 .i64 n (by omega) (by omega) w
theorem Wv (w:World):Calls Tryz.prog 153 #[.int .i64 2048,.int .i64 2] w fun e w'=>e=.returned (.bool true)/\w'=w:=by
 go_enter Tryz.func153,Tryz.ntmps153
 go_wp2_with fail
 go_ret
 exact⟨rfl,rfl⟩
structure nI (w:World)(g ls lo n:Nat)(S:List kU)(O:List Int)(u:Nat):Prop where
 k:Bk w g 207 #[.slice (some ⟨ls,0,none⟩) n n,.slice (some ⟨lo,0,none⟩) n n,.int .i64 (u:Int)]
 s:pR w ls S
 o:rP w lo O
 ns:S.length=n
 no:O.length=n
 d1:g≠ls
 d2:g≠lo
 d3:ls≠lo
structure lW (w:World)(g ss sr n:Nat)(S:List kU)(R:List Rc)(u:Nat):Prop where
 k:Bk w g 209 #[.slice (some ⟨ss,0,none⟩) n n,.slice (some ⟨sr,0,none⟩) n n,.int .i64 (u:Int)]
 s:pR w ss S
 r:vH w sr R
 ns:S.length=n
 nr:R.length=n
 d1:g≠ss
 d2:g≠sr
 d3:ss≠sr
theorem DJ (w:World)(c1 c2 c3:Array Value)(t1 t2 t3:TypeId) :
  Bk (((w.alloc (.cells c1 t1)).alloc (.cells c2 t2)).alloc (.cells c3 t3)).drew w.heap.size t1 c1/\Bk (((w.alloc (.cells c1 t1)).alloc (.cells c2 t2)).alloc (.cells c3 t3)).drew (w.heap.size+1) t2 c2 /\
  Bk (((w.alloc (.cells c1 t1)).alloc (.cells c2 t2)).alloc (.cells c3 t3)).drew (w.heap.size+2) t3 c3/\Below w.heap.size w (((w.alloc (.cells c1 t1)).alloc (.cells c2 t2)).alloc (.cells c3 t3)).drew:=by
 refine⟨((Bk.new w t1 c1).alloc _).alloc _,(l_ w _ t2 c2).alloc _,?_,((mP w _ _).alloc (by simp<;>omega) _).drew⟩;have:=Bk.new ((w.alloc (.cells c1 t1)).alloc (.cells c2 t2)) t3 c3;rw[jI,jI] at this;exact this
theorem YW (w:World):Calls Tryz.prog 94 #[.int .i64 2048] w fun e w'=>∃ g ls lo,e=.returned (.tuple #[.pointer (some ⟨g,0,none⟩),.int .i64 0]) /\
  nI w' g ls lo 2048 (mM 2048) (z_ 2048) 0/\w.heap.size<=g/\w.heap.size<=ls/\w.heap.size<=lo/\Below w.heap.size w w':=by
 have hms:∀ w:World,(Instr.makeSlice 205 (.int .i64 2048) (.int .i64 2048)).run Tryz.prog w=.ok (.slice (some ⟨w.heap.size,0,none⟩) 2048 2048) (w.alloc (.cells (yI (mM 2048)) 225)):=PM 2048 (by omega);have hmo:∀ w:World,(Instr.makeSlice 22 (.int .i64 2048) (.int .i64 2048)).run Tryz.prog w=.ok (.slice (some ⟨w.heap.size,0,none⟩) 2048 2048) (w.alloc (.cells (ints (z_ 2048)).toArray 3)):=agX 2048 (by omega);go_enter Tryz.func94,Tryz.ntmps94
 go_wp2_with fail
 refine (Wv _).mono ?_;rintro e w1 ⟨rfl,rfl⟩;go_wp2_with fail
 go_region
 ·obtain⟨h1,h2,h3,h4⟩:=DJ w1 (yI (mM 2048)) (ints (z_ 2048)).toArray #[.slice (some ⟨w1.heap.size,0,none⟩) 2048 2048,.slice (some ⟨w1.heap.size+1,0,none⟩) 2048 2048,.int .i64 0] 225 3 207;have H:=jP (nI.mk (u:=0) h3 h1 h2 (fB ..) (fB ..) (by omega) (by omega) (by omega));have H4:=jP h4;clear h1 h2 h3 h4;go_wp2_with fail
  go_ret2
  exact⟨_,_,_,rfl,H.1,by omega,by omega,by omega,H4.1⟩
 ·obtain⟨h1,h2,h3,h4⟩:=DJ w1 (ints (z_ 2048)).toArray (yI (mM 2048)) #[.slice (some ⟨w1.heap.size+1,0,none⟩) 2048 2048,.slice (some ⟨w1.heap.size,0,none⟩) 2048 2048,.int .i64 0] 3 225 207;have H:=jP (nI.mk (u:=0) h3 h2 h1 (fB ..) (fB ..) (by omega) (by omega) (by omega));have H4:=jP h4;clear h1 h2 h3 h4;go_wp2_with fail
  go_ret2
  exact⟨_,_,_,rfl,H.1,by omega,by omega,by omega,H4.1⟩
theorem aeH (w:World):Calls Tryz.prog 95 #[.int .i64 16] w fun e w'=>∃ g ss sr,e=.returned (.tuple #[.pointer (some ⟨g,0,none⟩),.int .i64 0]) /\
  lW w' g ss sr 16 (mM 16) (yA 16) 0/\w.heap.size<=g/\w.heap.size<=ss/\w.heap.size<=sr/\Below w.heap.size w w':=by
 have hms:∀ w:World,(Instr.makeSlice 205 (.int .i64 16) (.int .i64 16)).run Tryz.prog w=.ok (.slice (some ⟨w.heap.size,0,none⟩) 16 16) (w.alloc (.cells (yI (mM 16)) 225)):=PM 16 (by omega);have hmo:∀ w:World,(Instr.makeSlice 57 (.int .i64 16) (.int .i64 16)).run Tryz.prog w=.ok (.slice (some ⟨w.heap.size,0,none⟩) 16 16) (w.alloc (.cells (En (yA 16)) 41)):=afg 16 (by omega);go_enter Tryz.func95,Tryz.ntmps95
 go_wp2_with fail
 go_region
 ·obtain⟨h1,h2,h3,h4⟩:=DJ w (yI (mM 16)) (En (yA 16)) #[.slice (some ⟨w.heap.size,0,none⟩) 16 16,.slice (some ⟨w.heap.size+1,0,none⟩) 16 16,.int .i64 0] 225 41 209;have H:=jP (lW.mk (u:=0) h3 h1 h2 (fB ..) (fB ..) (by omega) (by omega) (by omega));have H4:=jP h4;clear h1 h2 h3 h4;go_wp2_with fail
  go_ret2
  exact⟨_,_,_,rfl,H.1,by omega,by omega,by omega,H4.1⟩
 ·obtain⟨h1,h2,h3,h4⟩:=DJ w (En (yA 16)) (yI (mM 16)) #[.slice (some ⟨w.heap.size+1,0,none⟩) 16 16,.slice (some ⟨w.heap.size,0,none⟩) 16 16,.int .i64 0] 41 225 209;have H:=jP (lW.mk (u:=0) h3 h2 h1 (fB ..) (fB ..) (by omega) (by omega) (by omega));have H4:=jP h4;clear h1 h2 h3 h4;go_wp2_with fail
  go_ret2
  exact⟨_,_,_,rfl,H.1,by omega,by omega,by omega,H4.1⟩
theorem YS (a b:Int)(h1:1<=a)(h2:a<=64)(h3:1<=b)(h4:b<=64)(w:World):Calls Tryz.prog 93 #[.agg #[.int .i64 a,.int .i64 b]] w fun e w'=>e=.returned (.int .i64 0)/\Below w.heap.size w w':=by
 have hb:=Bk.new w 38 #[.int .i64 a,.int .i64 b];have x0:(w.alloc (.cells #[.int .i64 a,.int .i64 b] 38)).cell? ⟨w.heap.size,0,none⟩=some (.int .i64 a):=hb.cell 0;have x1:(w.alloc (.cells #[.int .i64 a,.int .i64 b] 38)).cell? ⟨w.heap.size,1,none⟩=some (.int .i64 b):=hb.cell 1;clear hb;go_enter Tryz.func93,Tryz.ntmps93
 go_wp2_with fail
 go_ret
 exact⟨rfl,(ai _ _).alloc (ag _) _⟩
end Go.Proofs.YtkachcflifhgiaaGreatDoor
