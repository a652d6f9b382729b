/-   -/
import Derived.Test.YtkachcflifhgiaaGreatDoorM16
import Derived.Test.YtkachcflifhgiaaGreatDoorRgnZ
import Derived.Test.YtkachcflifhgiaaGreatDoorM09
import Derived.RegionTactic
import Derived.IntWalk
import Derived.ChangeAlike
import Derived.Test.YtkachcflifhgiaaGreatDoorM04
set_option linter.unusedVariables false
set_option maxRecDepth 100000
set_option maxHeartbeats 16000000
namespace Go.Proofs.YtkachcflifhgiaaGreatDoor
open Go Go.RowKit Go.Shelf Go.Proofs
def Cb (T:TypeId)(xs:List Int)(vs:List Value)(w:World)(e:Ending)(w':World):Prop:=
 ∃ A c,e=.returned (.tuple (#[.slice A xs.length c]++vs.toArray))/\w'.ownsRow w.heap.size T 1 (.slice A xs.length c) xs.length (ints xs)/\Below w.heap.size w w'
def IxR (b:Bool)(w:World)(e:Ending)(w':World):Prop:=∃ r:Int,-1<=r/\decide (0<=r)=b/\e=.returned (.int .i64 r)/\Below w.heap.size w w'
theorem ab8 (g:FuncId)(cb:Array Value)(p:Int->Bool)(eg:∀ args w,(callFunc g args).run Tryz.prog w=.ok (.enter g args) w)(A:Option Addr)(n c:Nat)(l:List Int)(B:Nat)(w:World)(hr:Rd w B 1 A n (ints l))(hB:B<=w.heap.size)(hn:n<=1000000)
  (hf:∀ (W:World) (x:Int),Below w.heap.size w W->Calls Tryz.prog g (#[.int .i64 x]++cb) W fun e w'=>e=.returned (.bool (p x))/\Below W.heap.size W w') :
  Calls Tryz.prog 257 #[.slice A n c,.func (.func g) #[] cb] w (IxR (l.any p) w):=by
 have hl:=lY hr;have HR:=jP hr;have HF:=jP hf;have HL:=jP hl;clear hr hf hl;go_enter Tryz.func257,Tryz.ntmps257
 go_wp2_with fail
 go_loopw [8] (fun i wr=>∃ k:Nat,k<=n/\i=.int .i64 k/\(l.take k).any p=false/\Below w.heap.size w wr) (fun i _=>n-(intOf i).toNat)
 case atStart=>exact⟨0,by omega,rfl,rfl,ai _ _⟩
 case round=>
  obtain⟨k,hk,rfl,hno,hbr⟩:=hrel;have HI:=jP hbr;have HN:=jP hno;clear hbr hno;by_cases hlt:k<n
  ·obtain⟨b,off,x,rfl,hb,hat,hcell⟩:=jZ (HR.1.below (HI.1.mono hB)) hlt;have htk:(l.take (k+1)).any p=p x:=by
    obtain⟨q1,q2⟩:=ak.1 hat;rw[az q1,q2,jL,HN.1];simp
   have hmem:=ay hat;have HT:=jP htk;have HF1:=jP (HF.1 wr x HI.1);have HAN:=jP (show p x=true->l.any p=true from fun h=>dP.2 ⟨x,hmem,h⟩);clear hat htk hmem;cases hp:p x with
   | false=>
    rw[hp] at HF1 HT;clear hp;go_wp2_with fail
    refine HF1.1.mono ?_;rintro e w1 ⟨rfl,hb1⟩;have HI1:=jP (HI.1.trans (hb1.mono HI.1.size));clear hb1;go_wp2_with fail
    go_roundw
    case rel=>exact⟨k+1,by omega,by go_num,HT.1,HI1.1⟩
    case measure=>simp[intOf];omega
   | true=>
    have HA:=jP (HAN.1 hp);rw[hp] at HF1;clear hp;go_wp2_with fail
    refine HF1.1.mono ?_;rintro e w1 ⟨rfl,hb1⟩;have HI1:=jP (HI.1.trans (hb1.mono HI.1.size));clear hb1;go_wp2_with fail
    go_ret
    exact⟨(k:Int),by omega,by rw[HA.1];simp,rfl,HI1.1⟩
  ·have HA:=jP (show l.any p=false by rw[<-HN.1,aP (by have:=HL.1;omega)]);go_wp2_with fail
   go_ret
   exact⟨-1,by omega,by rw[HA.1];rfl,rfl,HI.1⟩
theorem BZ (g:FuncId)(cb:Array Value)(p:Int->Bool)(eg:∀ args w,(callFunc g args).run Tryz.prog w=.ok (.enter g args) w)(A:Option Addr)(n c:Nat)(l:List Int)(B:Nat)(w:World)(hr:Rd w B 1 A n (ints l))(hB:B<=w.heap.size)(hn:n<=1000000)
  (hf:∀ (W:World) (x:Int),Below w.heap.size w W->Calls Tryz.prog g (#[.int .i64 x]++cb) W fun e w'=>e=.returned (.bool (p x))/\Below W.heap.size W w') :
  Calls Tryz.prog 214 #[.slice A n c,.func (.func g) #[] cb] w fun e w'=>e=.returned (.bool (l.any p))/\Below w.heap.size w w':=by
 have HC:=jP (ab8 g cb p eg A n c l B w hr hB hn hf);clear hr hf;generalize l.any p=q at *;go_enter Tryz.func214,Tryz.ntmps214
 go_wp2_with fail
 refine HC.1.mono ?_;rintro e w1 ⟨r,hr,hq,rfl,hb⟩;have HQ:=jP hq;have HB:=jP hb;clear hq hb;go_wp2_with fail
 go_ret
 exact⟨by rw[<-HQ.1];rfl,HB.1⟩
theorem short_any (c:Int)(w:World):Calls Tryz.prog 215 #[.int .i64 c] w fun e w'=>e=.returned (.bool (Gm.kS c==0))/\Below w.heap.size w w':=by
 have HU:=jP (Ai c);generalize Gm.kS c=u at *;go_enter Tryz.func215,Tryz.ntmps215
 go_wp2_with fail
 refine (HU.1 _).mono ?_;rintro e w1 ⟨rfl,rfl⟩;go_wp2_with fail
 go_ret
 exact⟨rfl,ai _ _⟩
section
variable {w:World} {B:Nat} {V:TV} {T:Gm.Tab}
theorem WC (h:j_ w B V T)(hB:B<=w.heap.size)(A:Option Addr)(n c:Nat)(l:List Int)(hr:Rd w B 1 A n (ints l))(hn:n<=1000000) :
  Calls Tryz.prog 147 #[kF V,.slice A n c] w fun e w'=>e=.returned (.int .i64 (Gm.kE l))/\Below w.heap.size w w':=by
 have F0:=jP (Fr.start h hB);have HR0:=jP (hr.alloc hB (.cells (kK V) 26));have hl:=lY hr;have HE:=jP (show Gm.kE l=if 4096<l.length then 7 else if l.any (fun c=>Gm.kS c==0) then 3 else 0 from rfl);rw[hl] at HE;clear h hB hr hl;generalize Gm.kE l=r at *;obtain⟨x0,x1,x2,x3,x4,x5,x6,x7,x8,x9,x10,x11⟩:=F0.1.cells;go_enter Tryz.func147,Tryz.ntmps147
 go_wp2_with fail
 clear x0 x1 x2 x3 x4 x5 x6 x7 x8 x9 x10 x11;refine (DK F0.1.tb F0.1.hx).mono ?_;rintro e w1 ⟨rfl,hb1⟩;have F1:=jP (F0.1.step hb1);have HR1:=jP (HR0.1.below (hb1.mono F0.1.hx));clear hb1 F0 HR0;by_cases h4:4096<n
 ·go_wp2_with fail
  go_ret
  exact⟨qE (by rw[HE.1,aj h4]),F1.1.bl⟩
 ·have h5:(n:Int)<=4096:=by omega
  go_wp2_with fail
  refine (BZ 215 #[] (fun c=>Gm.kS c==0) (fA Tryz.func215 (by kernel_rfl) rfl) A n c l B _ HR1.1 F1.1.hx (by omega) (fun W x _=>short_any x W)).mono ?_;rintro e w2 ⟨rfl,hb2⟩;have F2:=jP (F1.1.step hb2);clear hb2;cases ha:l.any (fun c=>Gm.kS c==0) with
  | true=>
   rw[ha] at HE;go_wp2_with fail
   go_ret
   exact⟨qE (by rw[HE.1,ah h4];simp),F2.1.bl⟩
  | false=>
   rw[ha] at HE;go_wp2_with fail
   go_ret
   exact⟨qE (by rw[HE.1,ah h4];simp),F2.1.bl⟩
end
theorem Ac {w:World}{base:Nat}{e:TypeId}{g n c:Nat}{xs:List Int}(h:w.ownsRow base e 1 (.slice (some ⟨g,0,none⟩) n c) n (ints xs)){i:Nat}(hi:i<n)(u:Int) :
  (w.setCell ⟨g,i,none⟩ (.int .i64 u)).ownsRow base e 1 (.slice (some ⟨g,0,none⟩) n c) n (ints (xs.set i u)):=by
 refine⟨by have:=h.1;rw[kH] at *;rw[List.length_set];exact this,.inr ?_⟩;rcases h.2 with ⟨e0,_⟩ | ⟨g',cap,cur,hv,hb,hh,h1,h2,h3,h4⟩
 ·cases e0
 ·injection hv with hv hv2 hv3
  injection hv with hv;injection hv with hv _ _
  subst hv;subst hv3;refine⟨g,c,cur.setIfInBounds i (.int .i64 u),rfl,hb,Bk.kM hh i _,h1,h2,by simp[h3],?_⟩;rw[Array.toList_setIfInBounds,List.take_set,h4];simp[ints,List.map_set]
theorem uU {w:World}{base:Nat}{e:TypeId}{A:Option Addr}{n c:Nat}{xs:List Int}(h:w.ownsRow base e 1 (.slice A n c) n (ints xs)){i:Nat}{u:Int}(hi:xs[i]?=some u) :
  ∃ g,A=some ⟨g,0,none⟩/\base<=g/\g<w.heap.size/\n<=c/\w.cell? ⟨g,i,none⟩=some (.int .i64 u)/\(∀ j,w.frozen? ⟨g,j,none⟩=false):=by
 have hl:xs.length=n:=by have:=h.1;rw[kH] at this;omega
 have hin:i<n:=by have:=(ak.1 hi).1;omega
 obtain⟨g,h1,h2,h3,h4,h5,h6⟩:=xw h (by omega);exact⟨g,h1,h2,h3,h4,h5 i _ (by rw[ints_at,hi];rfl),h6⟩
theorem Gm.MV (T:Gm.Tab)(k x:Int):∀ (R:List Int) (j:Nat),(∀ y∈R.take j,k<Gm.cls T y)->(∀ y,R[j]?=some y->¬k<Gm.cls T y)->j<=R.length->Gm.CV T k x R=R.take j++x::R.drop j
 | [],j,_,_,hj=>by simp at hj;subst hj;rfl
 | y::r,0,_,h,_=>by
  unfold Gm.CV;rw[ah (h y rfl)];rfl
 | y::r,j+1,h,h2,hj=>by
  unfold Gm.CV;rw[aj (h y (by simp)),Gm.MV T k x r j (fun z hz=>h z (by simp[hz])) (fun z hz=>h2 z (by simpa using hz)) (by simpa using hj)];rfl
def Gm.sR (T:Gm.Tab)(l:List Int)(i:Nat):List Int:=(l.take i).foldl (Gm.sO T) []
theorem Gm.Uk {T:Gm.Tab}{l:List Int}{i:Nat}{x:Int}(h:l[i]?=some x):Gm.sR T l (i+1)=Gm.sO T (Gm.sR T l i) x:=by
 obtain⟨q1,q2⟩:=ak.1 h;unfold Gm.sR;rw[az q1,q2,List.foldl_append];rfl
theorem Gm.Qb (T:Gm.Tab)(k x:Int):∀ R,(Gm.CV T k x R).length=R.length+1
 | []=>rfl
 | y::r=>by
  unfold Gm.CV;split
  ·simp[Gm.Qb T k x r]
  ·simp
theorem Gm.Jp (T:Gm.Tab)(l:List Int):∀ i,i<=l.length->(Gm.sR T l i).length=i
 | 0,_=>rfl
 | i+1,h=>by
  have hx:l[i]?=some l[i]:=au (by omega);rw[Gm.Uk hx];unfold Gm.sO;split
  ·simp[Gm.Jp T l i (by omega)]
  ·rw[Gm.Qb,Gm.Jp T l i (by omega)]
def Gm.mid (R:List Int)(x:Int)(r:List Int)(j:Nat):List Int:=(R.drop j).reverse++x::((R.take j).reverse++r)
theorem Gm.YQ (R:List Int)(x:Int)(r:List Int)(j:Nat)(hj:j<=R.length):(Gm.mid R x r j)[R.length-j]?=some x:=by
 unfold Gm.mid;rw[aT (by simp),List.length_reverse,bF,gY];rfl
theorem Gm.abH (R:List Int)(x:Int)(r:List Int)(j:Nat){y:Int}(hy:R[j]?=some y):(Gm.mid R x r j)[R.length-j-1]?=some y:=by
 obtain⟨q1,q2⟩:=ak.1 hy;unfold Gm.mid;rw[bz (by simp;omega),bP q1,q2,List.reverse_cons,aT (by simp;omega),show R.length-j-1-(R.drop (j+1)).reverse.length=0 by rw[List.length_reverse,bF];omega];rfl
theorem Gm.abG (R:List Int)(x:Int)(r:List Int)(j:Nat){y:Int}(hy:R[j]?=some y):((Gm.mid R x r j).set (R.length-j) y).set (R.length-j-1) x=Gm.mid R x r (j+1):=by
 obtain⟨q1,q2⟩:=ak.1 hy;unfold Gm.mid;have e1:(R.drop j).reverse=(R.drop (j+1)).reverse++[y]:=by rw[bP q1,q2,List.reverse_cons]
 have e2:(R.take (j+1)).reverse=y::(R.take j).reverse:=by rw[az q1,q2,List.reverse_append];rfl
 rw[e1,e2];generalize hD:(R.drop (j+1)).reverse=D;have hDl:D.length=R.length-(j+1):=by rw[<-hD];simp
 generalize (R.take j).reverse=E;have e3:R.length-j=D.length+1:=by omega
 have e4:R.length-j-1=D.length:=by omega
 rw[e4,e3];simp
theorem Gm.mid_zero (R:List Int)(x:Int)(r:List Int):Gm.mid R x r 0=R.reverse++x::r:=by simp[Gm.mid]
theorem Gm.Uc (T:Gm.Tab)(l:List Int):(Gm.sR T l l.length).reverse++l.drop l.length=Gm.sort T l:=by
 unfold Gm.sR Gm.sort;simp
structure So (w:World)(V:TV)(T:Gm.Tab)(B:Nat)(g p:Nat)(y:Int)(x:World):Prop where
 fr:Fr w V T B x
 lt:g<x.heap.size
 ce:x.cell? ⟨g,p,none⟩=some (.int .i64 y)
theorem So.step {w:World}{V:TV}{T:Gm.Tab}{B g p:Nat}{y:Int}{x z:World}(h:So w V T B g p y x)(hb:Below x.heap.size x z):So w V T B g p y z:=
 ⟨h.fr.step hb,aG h.lt hb.size,(hb.cell (p:=⟨g,p,none⟩) h.lt).trans h.ce⟩
theorem So.drew {w:World}{V:TV}{T:Gm.Tab}{B g p:Nat}{y:Int}{x:World}(h:So w V T B g p y x):So w V T B g p y x.drew:=h.step ((ai _ _).drew)
theorem So.conj {w:World}{V:TV}{T:Gm.Tab}{B g p:Nat}{y:Int}{x:World}(h:So w V T B g p y x):x.cell? ⟨w.heap.size,0,none⟩=some (.slice V.cat.A V.cat.n V.cat.c)/\x.cell? ⟨w.heap.size,1,none⟩=some (.slice V.cls.A V.cls.n V.cls.c)/\x.cell? ⟨w.heap.size,2,none⟩=some (.slice V.ku.A V.ku.n V.ku.c)/\x.cell? ⟨w.heap.size,3,none⟩=some (.slice V.jX.A V.jX.n V.jX.c)/\x.cell? ⟨w.heap.size,4,none⟩=some (.slice V.scr.A V.scr.n V.scr.c)/\x.cell? ⟨w.heap.size,5,none⟩=some (.slice V.jU.A V.jU.n V.jU.c)/\x.cell? ⟨w.heap.size,6,none⟩=some (.slice V.jW.A V.jW.n V.jW.c)/\x.cell? ⟨w.heap.size,7,none⟩=some (.slice V.ext.A V.ext.n V.ext.c)/\x.cell? ⟨w.heap.size,8,none⟩=some (.slice V.maps.A V.maps.n V.maps.c)/\x.cell? ⟨w.heap.size,9,none⟩=some (.slice V.dec.A V.dec.n V.dec.c)/\x.cell? ⟨w.heap.size,10,none⟩=some (.slice V.exc.A V.exc.n V.exc.c)/\x.cell? ⟨w.heap.size,11,none⟩=some (.slice V.jY.A V.jY.n V.jY.c)/\x.cell? ⟨g,p,none⟩=some (.int .i64 y):=by
 obtain⟨x0,x1,x2,x3,x4,x5,x6,x7,x8,x9,x10,x11⟩:=h.fr.cells;exact⟨x0,x1,x2,x3,x4,x5,x6,x7,x8,x9,x10,x11,h.ce⟩
theorem Fr.conj {w:World}{V:TV}{T:Gm.Tab}{B:Nat}{x:World}(h:Fr w V T B x):x.cell? ⟨w.heap.size,0,none⟩=some (.slice V.cat.A V.cat.n V.cat.c)/\x.cell? ⟨w.heap.size,1,none⟩=some (.slice V.cls.A V.cls.n V.cls.c)/\x.cell? ⟨w.heap.size,2,none⟩=some (.slice V.ku.A V.ku.n V.ku.c)/\x.cell? ⟨w.heap.size,3,none⟩=some (.slice V.jX.A V.jX.n V.jX.c)/\x.cell? ⟨w.heap.size,4,none⟩=some (.slice V.scr.A V.scr.n V.scr.c)/\x.cell? ⟨w.heap.size,5,none⟩=some (.slice V.jU.A V.jU.n V.jU.c)/\x.cell? ⟨w.heap.size,6,none⟩=some (.slice V.jW.A V.jW.n V.jW.c)/\x.cell? ⟨w.heap.size,7,none⟩=some (.slice V.ext.A V.ext.n V.ext.c)/\x.cell? ⟨w.heap.size,8,none⟩=some (.slice V.maps.A V.maps.n V.maps.c)/\x.cell? ⟨w.heap.size,9,none⟩=some (.slice V.dec.A V.dec.n V.dec.c)/\x.cell? ⟨w.heap.size,10,none⟩=some (.slice V.exc.A V.exc.n V.exc.c)/\x.cell? ⟨w.heap.size,11,none⟩=some (.slice V.jY.A V.jY.n V.jY.c):=h.cells
theorem EL {w:World}{V:TV}{T:Gm.Tab}{B g p:Nat}{y:Int}{x:World}(h:So w V T B g p y x)(c:Int):Calls Tryz.prog 200 #[kF V,.int .i64 c] x fun e x'=>e=.returned (.int .i64 (Gm.cls T c))/\Below x.heap.size x x'/\So w V T B g p y x':=
 (LJ h.fr.tb h.fr.hx c).mono fun e x' ⟨he,hb⟩=>⟨he,hb,h.step hb⟩
section
variable {w:World} {B:Nat} {V:TV} {T:Gm.Tab}
theorem OI (h:j_ w B V T)(hB:B<=w.heap.size)(A:Option Addr)(n c:Nat)(l:List Int)(hr:Rd w B 1 A n (ints l))(hn:n<=1000000) :
  Calls Tryz.prog 148 #[kF V,.slice A n c] w (vG 3 (Gm.sort T l) w):=by
 have F0:=jP (Fr.start h hB);have HL:=jP (lY hr);have HR0:=jP (hr.alloc hB (.cells (kK V) 26));clear h hB hr;go_enter Tryz.func148,Tryz.ntmps148
 go_wp2_with (at_builtin;refine kW (by rfl) _ _ rfl (base:=w.heap.size+1) (xs:=[]) rfl (aH _ _ _ _) rfl HR0.1 (by omega) (by simp) ?_)
 intro A1 c1 w1 ho1 hg1 hc1;have hb1:Below (w.heap.size+1) (w.alloc (.cells (kK V) 26)) w1:=(ai _ _).grown hg1 (by simp) (fun g h=>by cases h);have F1:=jP (F0.1.wK hb1 (ag _));have HO:=jP ho1;clear ho1 hg1 hc1 hb1 F0 HR0;go_wp2_with fail
 go_loopw [13] (fun vi wr=>∃ i:Nat,i<=n/\vi=.int .i64 i/\wr.ownsRow (w.heap.size+1) 3 1 (.slice A1 n c1) n (ints ((Gm.sR T l i).reverse++l.drop i))/\Below (w.heap.size+1) w1 wr) (fun vi _=>n-(intOf vi).toNat)
 case atStart=>exact⟨0,by omega,rfl,HO.1,ai _ _⟩
 case round=>
  obtain⟨i,hi,rfl,ho,hbr⟩:=hrel;have lG:=jP ho;have HI:=jP hbr;have F2:=jP (F1.1.wK hbr (ag _));clear ho hbr;by_cases hlt:i<n
  ·obtain⟨x,hx⟩:∃ x,l[i]?=some x:=⟨_,au (by have:=HL.1;omega)⟩;have NL:=jP (Gm.Jp T l i (by have:=HL.1;omega));have HSU:=jP (Gm.Uk (T:=T) hx);have HDR:=jP (show l.drop i=x::l.drop (i+1) by
    obtain⟨q1,q2⟩:=ak.1 hx;rw[bP q1,q2])
   have ho3:=lG.1;rw[HDR.1,<-Gm.mid_zero] at ho3;have hat:=Gm.YQ (Gm.sR T l i) x (l.drop (i+1)) 0 (by omega);rw[NL.1,Nat.sub_zero] at hat;obtain⟨g,rfl,hg1,hg2,hnc,hcell,hfr⟩:=uU ho3 hat;have mX:=jP ho3;have HFR:=jP hfr;have hs0:So w V T B g i x wr.drew:=So.drew ⟨F2.1,hg2,hcell⟩;have hcap:(n:Int)<=(c1:Int):=by omega
   have hi0:(0:Int)<=(i:Int):=by omega
   have hi1:(i:Int)<(n:Int):=by omega
   clear hx hat ho3 hcell hfr lG;generalize Gm.sR T l i=R at *;go_wp2_with fail
   refine aI (S:=So w V T B g i x) (by kernel_rfl) hs0 (fun hHeld=>?_);refine tk 0 ?_;refine tk 1 ?_;refine tk 2 ?_;refine tk 3 ?_;refine tk 4 ?_;refine rc 5 fun K hK=>?_;go_simp
   refine (EL hs0 x).mono ?_;rintro e w3 ⟨rfl,hb3,hs3⟩;try go_wp2_with fail
   refine rk hK hs3 fun hHeld=>?_;clear hK K;refine tk 6 ?_;refine aJ (by kernel_rfl) ?_ _;have lC:=jP (kD mX.1.drew hb3);have HI4:=jP ((HI.1.drew).trans (hb3.mono (show w.heap.size+1<=wr.heap.size from F2.1.sz)));have F4:=jP hs3.fr;clear hs0 hs3 hb3 mX HI F2;by_cases hk0:Gm.cls T x=0
   ·have HE:=jP (show (Gm.sR T l (i+1)).reverse++l.drop (i+1)=Gm.mid R x (l.drop (i+1)) 0 by
     rw[HSU.1,Gm.mid_zero];unfold Gm.sO;rw[aj hk0];simp)
    rw[hk0];clear hk0;go_wp2_with fail
    go_roundw
    case rel=>exact⟨i+1,by omega,by go_num,by rw[HE.1];exact lC.1,HI4.1⟩
    case measure=>simp[intOf];omega
   ·have hkb:(Gm.cls T x==0)=false:=by simpa using hk0
    have HE:=jP (show ∀ j,j<=R.length->(∀ y∈R.take j,Gm.cls T x<Gm.cls T y)->(∀ y,R[j]?=some y->¬Gm.cls T x<Gm.cls T y)->(Gm.sR T l (i+1)).reverse++l.drop (i+1)=Gm.mid R x (l.drop (i+1)) j from fun j hj h1 h2=>by
     rw[HSU.1];unfold Gm.sO Gm.mid;rw[ah hk0,Gm.MV T _ x R j h1 h2 hj];simp)
    clear hk0;generalize hkk:Gm.cls T x=k at *;clear hkk;go_wp2_with fail
    go_loopw [8] (fun vp wi=>∃ p j:Nat,p+j=i/\vp=.int .i64 p/\wi.ownsRow (w.heap.size+1) 3 1 (.slice (some ⟨g,0,none⟩) n c1) n (ints (Gm.mid R x (l.drop (i+1)) j))/\(∀ y∈R.take j,k<Gm.cls T y)/\Below (w.heap.size+1) w1 wi) (fun vp _=>(intOf vp).toNat)
    case atStart=>exact⟨i,0,by omega,rfl,lC.1,by simp,HI4.1⟩
    case round=>
     obtain⟨p,j,hpj,rfl,ho,hgt,hbr⟩:=hrel;have lD:=jP ho;have CE:=jP hgt;have kY:=jP hbr;have F5:=jP (F1.1.wK hbr (ag _));clear ho hgt hbr;by_cases hp0:p=0
     ·subst hp0;have HEE:=jP (HE.1 j (by have:=NL.1;omega) CE.1 (fun y hy=>by
       have:=(ak.1 hy).1;have:=NL.1;omega))
      have hs0:So w V T B w.heap.size 0 0 wr.drew\/True:=.inr trivial;go_wp2_with fail
      refine aI (S:=Fr w V T B) (by kernel_rfl) F5.1.drew (fun hHeld=>?_);refine tk 0 ?_;refine tk 1 ?_;refine tk 2 ?_;refine tu 3 ?_;refine tu 4 ?_;refine tu 5 ?_;refine tu 6 ?_;refine tu 7 ?_;refine tu 8 ?_;refine tu 9 ?_;refine tu 10 ?_;refine tu 11 ?_;refine tk 12 ?_;refine aJ (by kernel_rfl) ?_ _;go_wp2_with fail
      go_roundw
      case rel=>exact⟨i+1,by omega,by go_num,by rw[HEE.1];exact lD.1.drew,kY.1.drew⟩
      case measure=>simp[intOf];omega
     ·obtain⟨q,rfl⟩:∃ q,p=q+1:=⟨p-1,by omega⟩;obtain⟨y,hy⟩:∃ y,R[j]?=some y:=⟨_,au (by have:=NL.1;omega)⟩;have e1:R.length-j=q+1:=by have:=NL.1;omega
      have hm1:=Gm.YQ R x (l.drop (i+1)) j (by omega);have hm2:=Gm.abH R x (l.drop (i+1)) j hy;have Fa:=Gm.abG R x (l.drop (i+1)) j hy;rw[e1] at hm1 hm2 Fa;rw[Nat.add_sub_cancel] at hm2 Fa;obtain⟨g',e2,_,hg4,_,hc1,hfz⟩:=uU lD.1 hm1;injection e2 with e2;injection e2 with e2 _ _;subst e2
      obtain⟨g',e2,_,_,_,hc2,_⟩:=uU lD.1 hm2;injection e2 with e2;injection e2 with e2 _ _;subst e2
      have hs0:So w V T B g q y wr.drew:=So.drew ⟨F5.1,hg4,hc2⟩;have y_:=jP Fa;have HY:=jP hy;have BG:=jP hc1;have hq0:(0:Int)<=(q:Int):=by omega
      have hq1:(q:Int)<(n:Int):=by omega
      have hq2:(q:Int)+1<(n:Int):=by omega
      clear hm1 hm2 Fa hc1 hc2 hy e1;have hwq:IntKind.i64.wrap (q:Int)=(q:Int):=aW _ (by omega);go_wp2_with fail
      refine aI (S:=So w V T B g q y) (by kernel_rfl) hs0 (fun hHeld=>?_);refine tk 0 ?_;refine tk 1 ?_;refine tk 2 ?_;refine tk 3 ?_;refine tk 4 ?_;refine tk 5 ?_;refine tk 6 ?_;refine tk 7 ?_;refine tk 8 ?_;refine tk 10 ?_;refine rc 9 fun K hK=>?_;go_simp
      refine (EL hs0 y).mono ?_;rintro e w6 ⟨rfl,hb6,hs6⟩;try go_wp2_with fail
      refine rk hK hs6 fun hHeld=>?_;clear hK K;have lI:=jP (kD lD.1.drew hb6);have um:=jP ((kY.1.drew).trans (hb6.mono (show w.heap.size+1<=wr.heap.size from F5.1.sz)));have hc1:w6.cell? ⟨g,q+1,none⟩=some (.int .i64 x):=(hb6.cell (p:=⟨g,q+1,none⟩) hg4).trans BG.1;have hc2:=hs6.ce;have hf1:∀ j,w6.frozen? ⟨g,j,none⟩=false:=fun j=>(hb6.frozen (p:=⟨g,j,none⟩) hg4).trans (hfz j);clear hb6 hs6 hs0 hfz;refine tk 11 ?_;refine tk 12 ?_;refine aJ (by kernel_rfl) ?_ _;clear hwq hHeld;have VD:=jP (show k<Gm.cls T y\/¬k<Gm.cls T y from Classical.em _);generalize hcy:Gm.cls T y=ky at *;rcases VD.1 with hlt2 | alK
      ·have HGT:=jP (show ∀ z∈R.take (j+1),k<Gm.cls T z from fun z hz=>by
        obtain⟨q1,q2⟩:=ak.1 HY.1;rw[az q1,q2,aO,aB] at hz;rcases hz with hz | rfl
        ·exact CE.1 z hz
        ·rw[hcy];exact hlt2)
       have f1:=hf1 q;have f2:=hf1 (q+1);have hcc:∀ v,(w6.setCell ⟨g,q+1,none⟩ v).cell? ⟨g,q,none⟩=some (.int .i64 y):=fun v=>(bQ w6 ⟨g,q+1,none⟩ ⟨g,q,none⟩ v (fun e=>by injection e with _ e;omega)).trans hc2;have mD:=jP (Ac (Ac lI.1 (show q+1<n by omega) y) (show q<n by omega) x);rw[y_.1] at mD;have hqj:q+(j+1)=i:=by omega
       clear hcy hf1;go_wp2_with fail
       go_region
       have lN:=jP (((um.1.setCell (p:=⟨g,q+1,none⟩) hg1 (.int .i64 y)).setCell (p:=⟨g,q,none⟩) hg1 (.int .i64 x)).drew);clear hc1 hc2 f1 f2 hcc;go_wp2_with fail
       go_roundw
       case rel=>exact⟨q,j+1,hqj,rfl,mD.1.drew,HGT.1,lN.1⟩
       case measure=>simp[intOf]
      ·have apb:ky<=k:=by omega
       have HEE:=jP (HE.1 j (by have:=NL.1;omega) CE.1 (fun z hz=>by
        rw[HY.1] at hz;injection hz with hz
        subst hz;rw[hcy];omega))
       clear alK hcy;go_wp2_with fail
       go_roundw
       case rel=>exact⟨i+1,by omega,by go_num,by rw[HEE.1];exact lI.1,um.1⟩
       case measure=>simp[intOf];omega
  ·obtain rfl:i=n:=by omega
   have HE:=jP (show wr.ownsRow w.heap.size 3 1 (.slice A1 i c1) i (ints (Gm.sort T l)) from by
    have:=lG.1;rw[<-HL.1,Gm.Uc,HL.1] at this;exact lH this (jJ _))
   have Ia:=jP (show (Gm.sort T l).length=i by have:=HE.1.1;rw[kH] at this;omega);go_wp2_with fail
   go_ret
   exact⟨A1,c1,by rw[Ia.1];rfl,by rw[Ia.1];exact HE.1,F2.1.bl⟩
end
theorem Gm.Ob (T:Gm.Tab)(l:List Int):(Gm.sort T l).length=l.length:=by
 have:=Gm.Jp T l l.length (ag _);have h2:=Gm.Uc T l;rw[<-h2];simp[this]
def Turn (w w':World)(v v':Value):Prop:=w.grownBy w' v.ownBlock/\(v'.ownBlock=v.ownBlock\/∃ g,v'.ownBlock=some g/\w.heap.size<=g)
theorem Turn.refl (w:World)(v:Value):Turn w w v v:=⟨qm w _,.inl rfl⟩
theorem Turn.trans {a b c:World}{u v x:Value}(h:Turn a b u v)(k:Turn b c v x):Turn a c u x:=by
 refine⟨⟨k.1.os.trans h.1.os,k.1.tape.trans h.1.tape,k.1.output.trans h.1.output,aK h.1.size k.1.size,fun i hi hn=>?_⟩,?_⟩
 ·refine (k.1.block i (aG hi h.1.size) fun e=>?_).trans (h.1.block i hi hn);rcases h.2 with h2 | ⟨g,h2,h3⟩
  ·exact hn (e.trans h2)
  ·rw[h2] at e;injection e with e;omega
 ·rcases k.2 with k2 | ⟨g,k2,k3⟩
  ·rcases h.2 with h2 | ⟨g,h2,h3⟩
   ·exact .inl (k2.trans h2)
   ·exact .inr ⟨g,k2.trans h2,h3⟩
  ·exact .inr ⟨g,k2,aK h.1.size k3⟩
theorem Turn.add {a b c:World}{u v:Value}(h:Turn a b u v)(hb:Below b.heap.size b c):Turn a c u v:=h.trans ⟨vS (qm b _) hb,.inl rfl⟩
theorem Turn.of {a b:World}{u v:Value}{z:Nat}(h:a.grownBy b u.ownBlock)(k:v.ownBlock=u.ownBlock\/v.ownBlock=some z)(hz:a.heap.size<=z):Turn a b u v:=
 ⟨h,k.imp id fun e=>⟨_,e,hz⟩⟩
theorem Turn.below {a b:World}{u v:Value}{base:Nat}(h:Turn a b u v)(hb:base<=a.heap.size)(hu:∀ g,u.ownBlock=some g->base<=g):Below base a b:=(ai base a).grown h.1 hb hu
theorem pg {w:World}{base:Nat}{e:TypeId}{size n:Nat}{v:Value}{xs:List Value}(h:w.ownsRow base e size v n xs):∀ g,v.ownBlock=some g->base<=g:=fun g hg=>(h.lt g hg).1
theorem Bk.turn {w w':World}{g:Nat}{t:TypeId}{cs:Array Value}{u v:Value}(h:Bk w g t cs)(ht:Turn w w' u v)(hn:u.ownBlock≠some g):Bk w' g t cs:=(ht.1.block g h.lt (fun e=>hn e.symm)).trans h
theorem rD {x:World}{g:Nat}{V:TV}(h:Bk x g 26 (kK V)):x.cell? ⟨g,0,none⟩=some (.slice V.cat.A V.cat.n V.cat.c)/\x.cell? ⟨g,1,none⟩=some (.slice V.cls.A V.cls.n V.cls.c)/\x.cell? ⟨g,2,none⟩=some (.slice V.ku.A V.ku.n V.ku.c)/\x.cell? ⟨g,3,none⟩=some (.slice V.jX.A V.jX.n V.jX.c)/\x.cell? ⟨g,4,none⟩=some (.slice V.scr.A V.scr.n V.scr.c)/\x.cell? ⟨g,5,none⟩=some (.slice V.jU.A V.jU.n V.jU.c)/\x.cell? ⟨g,6,none⟩=some (.slice V.jW.A V.jW.n V.jW.c)/\x.cell? ⟨g,7,none⟩=some (.slice V.ext.A V.ext.n V.ext.c)/\x.cell? ⟨g,8,none⟩=some (.slice V.maps.A V.maps.n V.maps.c)/\x.cell? ⟨g,9,none⟩=some (.slice V.dec.A V.dec.n V.dec.c)/\x.cell? ⟨g,10,none⟩=some (.slice V.exc.A V.exc.n V.exc.c)/\x.cell? ⟨g,11,none⟩=some (.slice V.jY.A V.jY.n V.jY.c):=
 ⟨h.cell 0,h.cell 1,h.cell 2,h.cell 3,h.cell 4,h.cell 5,h.cell 6,h.cell 7,h.cell 8,h.cell 9,h.cell 10,h.cell 11⟩
def Xy (base:Nat)(v0:Value)(ys:List Int)(w:World)(e:Ending)(w':World):Prop:=
 ∃ A c,e=.returned (.slice A ys.length c)/\w'.ownsRow base 3 1 (.slice A ys.length c) ys.length (ints ys)/\Turn w w' v0 (.slice A ys.length c)
theorem afz (c:Int)(hs:Hg.mF c=false)(w:World):Calls Tryz.prog 288 #[.int .i64 c] w fun e w'=>e=.returned (.slice none 0 0)/\w'=w:=by
 have hp:=uq c w;rw[hs] at hp;have HP:=jP hp;clear hp hs;go_enter Tryz.func288,Tryz.ntmps288
 go_wp2_with fail
 refine HP.1.mono ?_;rintro e w1 ⟨rfl,rfl⟩;go_wp2_with fail
 go_ret
 exact⟨rfl,rfl⟩
theorem Hg.afZ {c:Int}(h:Hg.mF c=true):2<=(Hg.dec c).length/\(Hg.dec c).length<=3:=by
 unfold Hg.dec;rw[aj h];split<;>simp
def Gm.fl (T:Gm.Tab)(l:List Int)(j:Nat):List Int:=(l.take j).flatMap (Gm.oV T)
theorem Gm.Ls {T:Gm.Tab}{l:List Int}{j:Nat}{d:Int}(h:l[j]?=some d):Gm.fl T l (j+1)=Gm.fl T l j++Gm.oV T d:=by
 obtain⟨q1,q2⟩:=ak.1 h;unfold Gm.fl;rw[az q1,q2,List.flatMap_append];simp
theorem Gm.JS {T:Gm.Tab}(hT:Gm.Good T)(l:List Int):∀ j,(Gm.fl T l j).length<=6*j
 | 0=>by simp[Gm.fl]
 | j+1=>by
  have ih:=Gm.JS hT l j;cases h:l[j]? with
  | none=>
   have:l.length<=j:=List.getElem?_eq_none_iff.1 h;unfold Gm.fl at *;rw[aP (by omega)] at *;omega
  | some d=>
   rw[Gm.Ls h,aA];have:=Gm.ZC hT d;omega
section
variable {w:World} {B:Nat} {V:TV} {T:Gm.Tab}
theorem rq (h:j_ w B V T)(hB:B<=w.heap.size)(A:Option Addr)(n c:Nat)(l:List Int)(hr:Rd w B 1 A n (ints l))(hn:n<=1000000) :
  Calls Tryz.prog 85 #[kF V,.slice A n c] w (Cb 3 (Gm.order T l).1 [.int .i64 (Gm.order T l).2] w):=by
 have F0:=jP (Fr.start h hB);have HR0:=jP (hr.alloc hB (.cells (kK V) 26));have HO:=jP (show Gm.order T l=if Gm.kE l=0 then (Gm.sort T l,0) else ([],Gm.kE l) from rfl);clear h hB hr;generalize Gm.order T l=od at *;obtain⟨x0,x1,x2,x3,x4,x5,x6,x7,x8,x9,x10,x11⟩:=F0.1.cells;go_enter Tryz.func85,Tryz.ntmps85
 go_wp2_with fail
 clear x0 x1 x2 x3 x4 x5 x6 x7 x8 x9 x10 x11;refine (WC F0.1.tb F0.1.hx A n c l HR0.1 hn).mono ?_;rintro e w1 ⟨rfl,hb1⟩;have F1:=jP (F0.1.step hb1);have HR1:=jP (HR0.1.below (hb1.mono F0.1.hx));clear hb1 F0 HR0;by_cases h0:Gm.kE l=0
 ·have HV:=jP (show od=(Gm.sort T l,0) by rw[HO.1,aj h0]);rw[h0];clear HO h0;obtain⟨x0,x1,x2,x3,x4,x5,x6,x7,x8,x9,x10,x11⟩:=F1.1.cells;go_wp2_with fail
  clear x0 x1 x2 x3 x4 x5 x6 x7 x8 x9 x10 x11;refine (OI F1.1.tb F1.1.hx A n c l HR1.1 hn).mono ?_;rintro e w2 ⟨A2,c2,rfl,ho2,hb2⟩;have F2:=jP (F1.1.step hb2);have lG:=jP (lH ho2 (show w.heap.size<=w1.heap.size by have:=F1.1.sz;omega));clear ho2 hb2;go_wp2_with fail
  go_ret2
  rw[HV.1];exact⟨A2,c2,rfl,lG.1,F2.1.bl⟩
 ·have HV:=jP (show od=([],Gm.kE l) by rw[HO.1,ah h0]);have hb:(Gm.kE l != 0)=true:=by simpa using h0
  clear HO h0;go_wp2_with fail
  go_ret2
  rw[HV.1];exact⟨none,0,rfl,aH _ _ _ _,F1.1.bl⟩
theorem Xi:∀ (k:Nat) (v:Int),Gm.rk v<k->∀ (A:Option Addr) (c:Nat) (l:List Int) (base:Nat) (w:World),j_ w B V T->B<=base->base<=w.heap.size->w.ownsRow base 3 1 (.slice A l.length c) l.length (ints l)->l.length+1000*k<=1000000000 ->
  Calls Tryz.prog 248 #[kF V,.slice A l.length c,.int .i64 v] w (Xy base (.slice A l.length c) (l++Gm.oV T v) w):=by
 intro k;induction k with
 | zero=>intro v hv;omega
 | succ k ih=>
  intro v hv A c l base w h hBb hbw ho hl;have F0:=jP (Fr.start h (by omega));have HAW:=jP (show ∀ q,(Value.slice A l.length c).ownBlock=some q->q<w.heap.size from fun q hq=>(ho.lt q hq).2);have HO:=jP (ho.alloc (.cells (kK V) 26));have HB0:=jP ((Turn.refl w (.slice A l.length c)).add ((ai w.heap.size w).alloc (ag _) (.cells (kK V) 26)));have IH:=jP ih;clear h ho ih;obtain⟨x0,x1,x2,x3,x4,x5,x6,x7,x8,x9,x10,x11⟩:=F0.1.cells;generalize hn:l.length=n at *;have HL:=jP hn;clear hn;cases hs:Hg.mF v with
  | true=>
   have hfd:Gm.oV T v=Hg.dec v:=Gm.Fg hs;have F_:=jP hfd;obtain⟨hd2,hd3⟩:=Hg.afZ hs;have HD:=jP (acr v (w.alloc (.cells (kK V) 26)));clear hfd hs;generalize Hg.dec v=q at *;generalize hq:q.length=t at *;have HQ:=jP hq;clear hq;go_enter Tryz.func248,Tryz.ntmps248
   go_wp2_with fail
   clear x0 x1 x2 x3 x4 x5 x6 x7 x8 x9 x10 x11;refine HD.1.mono ?_;rintro e w1 ⟨A1,c1,rfl,ho1,hb1⟩;rw[HQ.1] at ho1 ⊢;obtain⟨g,rfl,_,_,_,_,_⟩:=xw ho1 (by omega);have HR1:=jP (Rd.kX ho1);have nT:=jP (kD HO.1 hb1);have HB1:=jP (HB0.1.add hb1);have hs1:w.heap.size+1<=w1.heap.size:=by have:=hb1.size;simp at this;omega
   have hns:=fun w:World=>run_neq_slice_nil_any (P:=Tryz.prog) w 22 3 (some ⟨g,0,none⟩) t c1 0 0 bC;clear ho1 hb1;go_wp2_with (at_builtin;refine kW (by rfl) _ _ rfl (base:=base) rfl nT.1 rfl HR1.1 (by omega) (by omega) ?_)
   intro A4 c4 w4 kQ hg4 hc4;have HB4:=jP (HB1.1.trans (Turn.of hg4 hc4 (ag _)));have lC:=jP kQ;clear kQ hg4 hc4 hns;go_wp2_with fail
   go_ret
   have e1:(l++Gm.oV T v).length=n+t:=by rw[F_.1,aA,HL.1,HQ.1]
   exact⟨A4,c4,by rw[e1];rfl,by rw[e1,F_.1];exact lC.1,by rw[e1];exact HB4.1⟩
  | false=>
   have HD:=jP (afz v hs (w.alloc (.cells (kK V) 26)));have hnn:=fun w:World=>run_neq_nil_slice (P:=Tryz.prog) w 22 3 none 0 0 0 0 bC;have hT:=F0.1.tb.good;go_enter Tryz.func248,Tryz.ntmps248
   go_wp2_with fail
   refine HD.1.mono ?_;rintro e w1 ⟨rfl,rfl⟩;go_wp2_with fail
   clear x0 x1 x2 x3 x4 x5 x6 x7 x8 x9 x10 x11;refine (af1 F0.1.tb F0.1.hx v (fun q hq=>by have:=(hT.sV hq).ne.2;simp only at this;omega)).mono ?_;rintro e w2 ⟨hb2,he⟩;have F2:=jP (F0.1.step hb2);have lG:=jP (kD HO.1 hb2);have HB2:=jP (HB0.1.add hb2);have hs2:w.heap.size+1<=w2.heap.size:=F2.1.sz;clear hb2;cases hd:Gm.pX T.dec v with
   | none=>
    rw[hd] at he;simp only at he;subst he;have F_:=jP (Gm.zZ (T:=T) hs hd);have hne:=fun w:World=>jA (P:=Tryz.prog) w 22 3 none 0 0 0 0 bC;clear hs hd F0 HO HB0;go_wp2_with (at_builtin;refine kW (by rfl) _ _ rfl (base:=base) rfl (lG.1.alloc _) rfl (kG (z:=w2.heap.size) rfl v) (by omega) (by simp<;>omega) ?_)
    intro A4 c4 w4 kQ hg4 hc4;have HB4:=jP ((HB2.1.add ((ai w2.heap.size w2).alloc (ag _) _)).trans (Turn.of hg4 hc4 (by simp)));have lC:=jP kQ;clear kQ hg4 hc4;go_wp2_with fail
    go_ret
    have e1:(l++Gm.oV T v).length=n+1:=by rw[F_.1,aA,HL.1];rfl
    exact⟨A4,c4,by rw[e1];rfl,by rw[e1,F_.1];exact lC.1,by rw[e1];exact HB4.1⟩
   | some q=>
    rw[hd] at he;obtain⟨A3,c3,rfl,ho3⟩:=he;have hD:=hT.sV hd;have uB:=hD.ne;simp only at uB;obtain⟨g,rfl,hg1,_,_,_,_⟩:=xw ho3 (dK.2 uB.1);have hg1':base<=g:=by simp at hg1;omega
    have F_:=jP (Gm.D9 hT hs hd);have HRK:=jP (show ∀ d∈q,Gm.rk d<k from fun d hdq=>by have:=hD.rk d hdq;simp only at this;omega);have vK:=jP ho3;have hq2:=uB.2;have hns:=fun w:World=>Lib.run_eql_slice_nil (P:=Tryz.prog) w 22 3 (some ⟨g,0,none⟩) q.length c3 0 0 bC;have HAG:=jP (show ∀ q,(Value.slice A n c).ownBlock=some q->q≠g from fun q hq=>by have:=(HO.1.lt q hq).2;omega);clear hs hd ho3 hD uB F0 HO HB0;have ahx:Gm.fl T q 0=[]:=rfl;generalize hm:q.length=t at *;have HT:=jP hm;clear hm;go_wp2_with fail
    clear hns;go_loopw [1,29] (fun vo vi wr=>∃ (j m:Nat) (A4:Option Addr) (c4:Nat),j<=t/\vi=.int .i64 j/\vo=.slice A4 m c4/\m=(l++Gm.fl T q j).length/\wr.ownsRow base 3 1 (.slice A4 m c4) m (ints (l++Gm.fl T q j))/\Turn w2 wr (.slice A n c) (.slice A4 m c4)) (fun _ vi _=>t-(intOf vi).toNat)
    case atStart=>exact⟨0,n,A,c,by omega,rfl,rfl,by rw[ahx,fC,HL.1],by rw[ahx,fC];exact lG.1,Turn.refl _ _⟩
    case round=>
     obtain⟨j,m,A4,c4,hj,rfl,rfl,hmm,kQ,Zo⟩:=hrel;have HM:=jP hmm;have lC:=jP kQ;have HT4:=jP Zo;have hbb:=Zo.below (base:=base) (by omega) (pg lG.1);have F4:=jP (show j_ wr B V T from F2.1.tb.below (hbb.mono hBb));have hsz:=Zo.1.size;have H9:=jP (vK.1.kept Zo.1 (.inr (fun e=>HAG.1 g e.symm rfl)));clear hmm kQ Zo;have hfl:=Gm.JS F2.1.tb.good q j;have hm9:m+1000*k<=1000000000:=by have:=HM.1;rw[aA,HL.1] at this;omega
     by_cases hjt:j<t
     ·obtain⟨d,hd⟩:∃ d,q[j]?=some d:=⟨_,au (by have:=HT.1;omega)⟩;obtain⟨g',e2,_,_,_,hcell,_⟩:=uU H9.1 hd;injection e2 with e2;injection e2 with e2 _ _;subst e2
      have ny:=jP (HRK.1 d (ay hd));have HFS:=jP (Gm.Ls (T:=T) hd);have HX:=jP (F2.1.bx.turn HT4.1 (fun e=>by have:=HAW.1 _ e;omega));have HE:=jP (IH.1 d ny.1 A4 c4 (l++Gm.fl T q j) base wr F4.1 hBb (by omega) (by rw[<-HM.1];exact lC.1) (by rw[<-HM.1];omega));rw[<-HM.1] at HE;have HG:=jP (show (l++Gm.fl T q j)++Gm.oV T d=l++Gm.fl T q (j+1) by rw[HFS.1,dQ]);rw[HG.1] at HE;generalize hl5:(l++Gm.fl T q (j+1)).length=m5 at HE;have Et:=jP hl5;clear hl5;obtain⟨x0,x1,x2,x3,x4,x5,x6,x7,x8,x9,x10,x11⟩:=rD HX.1;clear hd hm9 hfl hbb;go_wp2_with fail
      clear x0 x1 x2 x3 x4 x5 x6 x7 x8 x9 x10 x11 hcell;refine HE.1.mono ?_;unfold Xy;rw[Et.1];rintro e w5 ⟨A5,c5,rfl,oK,Zn⟩;have lD:=jP oK;have FT:=jP (HT4.1.trans Zn);clear oK Zn;go_wp2_with fail
      go_roundw
      case rel=>exact⟨j+1,m5,A5,c5,by omega,by go_num,rfl,Et.1.symm,lD.1,FT.1⟩
      case measure=>simp[intOf];omega
     ·obtain rfl:j=t:=by omega
      have HE:=jP (show l++Gm.fl T q j=l++Gm.oV T v by
       rw[F_.1];unfold Gm.fl;rw[aP (by have:=HT.1;omega)])
      have kT:=lC.1;have zF:=HM.1;rw[HE.1] at kT zF;have lI:=jP kT;have yZ:=jP zF;have vZ:=jP (HB2.1.trans HT4.1);clear kT zF hm9 hfl hbb;go_wp2_with fail
      go_ret
      exact⟨A4,c4,by rw[<-yZ.1];rfl,by rw[<-yZ.1];exact lI.1,by rw[<-yZ.1];exact vZ.1⟩
end
end Go.Proofs.YtkachcflifhgiaaGreatDoor
