/-  -/
import Derived.Test.YtkachcflifhgiaaGreatDoorM02
import Derived.Test.YtkachcflifhgiaaGreatDoorM05
import Derived.Test.YtkachcflifhgiaaGreatDoorM06
set_option linter.unusedVariables false
set_option maxRecDepth 100000
set_option maxHeartbeats 16000000
namespace Go.Proofs.YtkachcflifhgiaaGreatDoor
open Go Go.RowKit
structure Sl where
 A:Option Addr
 n:Nat
 c:Nat
def Sl.z:Sl:=⟨none,0,0⟩
structure TV where
 cat:Sl
 cls:Sl
 ku:Sl
 jX:Sl
 scr:Sl
 jU:Sl
 jW:Sl
 ext:Sl
 maps:Sl
 dec:Sl
 exc:Sl
 jY:Sl
@[reducible] def kK (V:TV):Array Value:=#[.slice V.cat.A V.cat.n V.cat.c,.slice V.cls.A V.cls.n V.cls.c,.slice V.ku.A V.ku.n V.ku.c,.slice V.jX.A V.jX.n V.jX.c,.slice V.scr.A V.scr.n V.scr.c,.slice V.jU.A V.jU.n V.jU.c,.slice V.jW.A V.jW.n V.jW.c,.slice V.ext.A V.ext.n V.ext.c,.slice V.maps.A V.maps.n V.maps.c,.slice V.dec.A V.dec.n V.dec.c,.slice V.exc.A V.exc.n V.exc.c,.slice V.jY.A V.jY.n V.jY.c]
@[reducible] def kF (V:TV):Value:=.agg #[.slice V.cat.A V.cat.n V.cat.c,.slice V.cls.A V.cls.n V.cls.c,.slice V.ku.A V.ku.n V.ku.c,.slice V.jX.A V.jX.n V.jX.c,.slice V.scr.A V.scr.n V.scr.c,.slice V.jU.A V.jU.n V.jU.c,.slice V.jW.A V.jW.n V.jW.c,.slice V.ext.A V.ext.n V.ext.c,.slice V.maps.A V.maps.n V.maps.c,.slice V.dec.A V.dec.n V.dec.c,.slice V.exc.A V.exc.n V.exc.c,.slice V.jY.A V.jY.n V.jY.c]
def V0:TV:=⟨.z,.z,.z,.z,.z,.z,.z,.z,.z,.z,.z,.z⟩
def qZ (w:World)(B:Nat)(A:Option Addr)(n:Nat)(l:List Gm.Mp):Prop:=
 l.length=n/\(0<n->∃ b off,A=some ⟨b,off,none⟩/\b<B/\∀ (j:Nat) (m:Gm.Mp),l[j]?=some m->w.cell? ⟨b,off+j*2,none⟩=some (.int .i64 m.f) /\
  ∃ A' c',w.cell? ⟨b,off+j*2+1,none⟩=some (.slice A' m.to.length c')/\Rd w B 1 A' m.to.length (ints m.to))
section
variable {w w':World} {B B' n:Nat} {A:Option Addr} {l:List Gm.Mp}
theorem qZ.below (h:qZ w B A n l)(hb:Below B w w'):qZ w' B A n l:=by
 refine⟨h.1,fun hn=>?_⟩;obtain⟨b,off,h1,h2,h3⟩:=h.2 hn;refine⟨b,off,h1,h2,fun j m hj=>?_⟩;obtain⟨h4,A',c',h5,h6⟩:=h3 j m hj;exact⟨(hb.cell (p:=⟨b,off+j*2,none⟩) h2).trans h4,A',c',(hb.cell (p:=⟨b,off+j*2+1,none⟩) h2).trans h5,h6.below hb⟩
theorem qZ.more (h:qZ w B A n l)(hB:B<=B'):qZ w B' A n l:=by
 refine⟨h.1,fun hn=>?_⟩;obtain⟨b,off,h1,h2,h3⟩:=h.2 hn;refine⟨b,off,h1,by omega,fun j m hj=>?_⟩;obtain⟨h4,A',c',h5,h6⟩:=h3 j m hj;exact⟨h4,A',c',h5,h6.more hB⟩
theorem qZ.nil (w:World)(B:Nat)(A:Option Addr):qZ w B A 0 []:=⟨rfl,fun h=>absurd h (by omega)⟩
theorem rU (h:qZ w B A n l){k:Nat}(hk:k<n):∃ b off m A' c',A=some ⟨b,off,none⟩/\b<B/\l[k]?=some m/\w.cell? ⟨b,off+k*2,none⟩=some (.int .i64 m.f)/\w.cell? ⟨b,off+k*2+1,none⟩=some (.slice A' m.to.length c')/\Rd w B 1 A' m.to.length (ints m.to):=by
 obtain⟨b,off,h1,h2,h3⟩:=h.2 (by omega);have hl:=h.1;have hs:l[k]?=some l[k]:=au (by omega);obtain⟨h4,A',c',h5,h6⟩:=h3 k _ hs;exact⟨b,off,l[k],A',c',h1,h2,hs,h4,h5,h6⟩
end
def LQ:List Rg.Sn:=[⟨0,127,0⟩,⟨4352,4370,0⟩,⟨4449,4469,0⟩,⟨4520,4546,0⟩,⟨44032,55203,0⟩,⟨55296,57343,0⟩]
def xg (w:World)(B:Nat):Prop:=0<B/\∃ A c,w.cell? ⟨0,0,none⟩=some (.slice A 6 c)/\Rd w B 3 A 6 (spans LQ)
theorem xg.below {w w':World}{B:Nat}(h:xg w B)(hb:Below B w w'):xg w' B:=by
 obtain⟨h1,A,c,h2,h3⟩:=h;exact⟨h1,A,c,(hb.cell (p:=⟨_,0,none⟩) h1).trans h2,h3.below hb⟩
theorem xg.more {w:World}{B B':Nat}(h:xg w B)(hB:B<=B'):xg w B':=by
 obtain⟨h1,A,c,h2,h3⟩:=h;exact⟨by omega,A,c,h2,h3.more hB⟩
structure j_ (w:World)(B:Nat)(V:TV)(T:Gm.Tab):Prop where
 cat:Rd w B 3 V.cat.A V.cat.n (spans T.cat)
 cls:Rd w B 3 V.cls.A V.cls.n (spans T.cls)
 ku:Rd w B 3 V.ku.A V.ku.n (spans T.ku)
 jX:Rd w B 3 V.jX.A V.jX.n (spans T.jX)
 scr:Rd w B 3 V.scr.A V.scr.n (spans T.scr)
 jU:Rd w B 3 V.jU.A V.jU.n (spans T.jU)
 jW:Rd w B 3 V.jW.A V.jW.n (spans T.jW)
 ext:qZ w B V.ext.A V.ext.n T.ext
 maps:qZ w B V.maps.A V.maps.n T.maps
 dec:qZ w B V.dec.A V.dec.n T.dec
 jY:qZ w B V.jY.A V.jY.n T.jY
 exc:Rd w B 1 V.exc.A V.exc.n (ints T.exc)
 blk:xg w B
 good:Gm.Good T
section
variable {w w' x y:World} {B B' b:Nat} {V:TV} {T:Gm.Tab}
theorem j_.below (h:j_ w B V T)(hb:Below B w w'):j_ w' B V T:=
 ⟨h.cat.below hb,h.cls.below hb,h.ku.below hb,h.jX.below hb,h.scr.below hb,h.jU.below hb,h.jW.below hb,h.ext.below hb,h.maps.below hb,h.dec.below hb,h.jY.below hb,h.exc.below hb,h.blk.below hb,h.good⟩
theorem j_.more (h:j_ w B V T)(hB:B<=B'):j_ w B' V T:=
 ⟨h.cat.more hB,h.cls.more hB,h.ku.more hB,h.jX.more hB,h.scr.more hB,h.jU.more hB,h.jW.more hB,h.ext.more hB,h.maps.more hB,h.dec.more hB,h.jY.more hB,h.exc.more hB,h.blk.more hB,h.good⟩
theorem j_.drew (h:j_ w B V T):j_ w.drew B V T:=h.below ((ai B w).drew)
theorem ali (w:World)(B:Nat)(hb:xg w B):j_ w B V0 Gm.t0:=
 ⟨Rd.nil_ _ _ _ _,Rd.nil_ _ _ _ _,Rd.nil_ _ _ _ _,Rd.nil_ _ _ _ _,Rd.nil_ _ _ _ _,Rd.nil_ _ _ _ _,Rd.nil_ _ _ _ _,qZ.nil _ _ _,qZ.nil _ _ _,qZ.nil _ _ _,qZ.nil _ _ _,Rd.nil_ _ _ _ _,hb,Gm.ajN⟩
theorem qO {A:Option Addr}{n:Nat}{l:List Rg.Sn}(h:Rd w B 3 A n (spans l)):l.length=n:=by have:=h.1;rw[uQ] at this;omega
theorem lY {A:Option Addr}{n:Nat}{l:List Int}(h:Rd w B 1 A n (ints l)):l.length=n:=by have:=h.1;rw[kH] at this;omega
theorem l_ (w:World)(o:Obj)(t:TypeId)(cs:Array Value):Bk ((w.alloc o).alloc (.cells cs t)) (w.heap.size+1) t cs:=by
 have:=Bk.new (w.alloc o) t cs;rwa [jI] at this
theorem mP (w:World)(o o':Obj):Below w.heap.size w ((w.alloc o).alloc o'):=((ai w.heap.size w).alloc (ag _) o).alloc (by simp) o'
structure Fr (w:World)(V:TV)(T:Gm.Tab)(B:Nat)(x:World):Prop where
 bl:Below w.heap.size w x
 bx:Bk x w.heap.size 26 (kK V)
 tb:j_ x B V T
 hB:B<=w.heap.size
theorem Fr.sz (h:Fr w V T B x):w.heap.size+1<=x.heap.size:=h.bx.lt
theorem Fr.hx (h:Fr w V T B x):B<=x.heap.size:=by have:=h.sz;have:=h.hB;omega
theorem Fr.start (h:j_ w B V T)(hB:B<=w.heap.size):Fr w V T B (w.alloc (.cells (kK V) 26)):=
 ⟨(ai _ _).alloc (ag _) _,Bk.new _ _ _,h.below ((ai B w).alloc hB _),hB⟩
theorem Fr.wK (h:Fr w V T B x){k:Nat}(hb:Below k x y)(hk:w.heap.size+1<=k):Fr w V T B y:=
 ⟨h.bl.trans (hb.mono (by omega)),h.bx.below hb (by omega),h.tb.below (hb.mono (by have:=h.hB;omega)),h.hB⟩
theorem Fr.step (h:Fr w V T B x)(hb:Below x.heap.size x y):Fr w V T B y:=h.wK hb h.sz
theorem Fr.alloc (h:Fr w V T B x)(o:Obj):Fr w V T B (x.alloc o):=h.step ((ai _ _).alloc (ag _) o)
theorem Fr.drew (h:Fr w V T B x):Fr w V T B x.drew:=h.step ((ai _ _).drew)
theorem Fr.drewN (h:Fr w V T B x)(n:Nat):Fr w V T B (x.drewN n):=h.step (below_drewN (ai _ _) n)
theorem Fr.cells (h:Fr w V T B x):x.cell? ⟨w.heap.size,0,none⟩=some (.slice V.cat.A V.cat.n V.cat.c)/\x.cell? ⟨w.heap.size,1,none⟩=some (.slice V.cls.A V.cls.n V.cls.c)/\x.cell? ⟨w.heap.size,2,none⟩=some (.slice V.ku.A V.ku.n V.ku.c)/\x.cell? ⟨w.heap.size,3,none⟩=some (.slice V.jX.A V.jX.n V.jX.c)/\x.cell? ⟨w.heap.size,4,none⟩=some (.slice V.scr.A V.scr.n V.scr.c)/\x.cell? ⟨w.heap.size,5,none⟩=some (.slice V.jU.A V.jU.n V.jU.c)/\x.cell? ⟨w.heap.size,6,none⟩=some (.slice V.jW.A V.jW.n V.jW.c)/\x.cell? ⟨w.heap.size,7,none⟩=some (.slice V.ext.A V.ext.n V.ext.c)/\x.cell? ⟨w.heap.size,8,none⟩=some (.slice V.maps.A V.maps.n V.maps.c)/\x.cell? ⟨w.heap.size,9,none⟩=some (.slice V.dec.A V.dec.n V.dec.c)/\x.cell? ⟨w.heap.size,10,none⟩=some (.slice V.exc.A V.exc.n V.exc.c)/\x.cell? ⟨w.heap.size,11,none⟩=some (.slice V.jY.A V.jY.n V.jY.c):=
 ⟨h.bx.cell 0,h.bx.cell 1,h.bx.cell 2,h.bx.cell 3,h.bx.cell 4,h.bx.cell 5,h.bx.cell 6,h.bx.cell 7,h.bx.cell 8,h.bx.cell 9,h.bx.cell 10,h.bx.cell 11⟩
end
end Go.Proofs.YtkachcflifhgiaaGreatDoor
