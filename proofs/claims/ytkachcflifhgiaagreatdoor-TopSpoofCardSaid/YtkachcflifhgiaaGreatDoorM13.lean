/-    -/
import Derived.Test.YtkachcflifhgiaaGreatDoorTpLabZ
import Derived.Test.YtkachcflifhgiaaGreatDoorM12
import Derived.Test.YtkachcflifhgiaaGreatDoorM02
import Derived.Test.YtkachcflifhgiaaGreatDoorM01
set_option linter.unusedVariables false
set_option maxRecDepth 100000
set_option maxHeartbeats 16000000
namespace Go.Proofs.YtkachcflifhgiaaGreatDoor
open Go Go.RowKit
open Go.RowKit in
theorem join_some (bk o c:Nat)(xs:List ByteArray)(sep:ByteArray)(w:World)(hcells:∀ (j:Nat) x,xs[j]?=some x->w.cell? ⟨bk,o+j,none⟩=some (.string x))(hbk:bk<w.heap.size)(hN:xs.length<=140737488355328)(hcap:xs.length<=c)(hlen:(Lib.join (xs.map (·.data.toList)) sep.data.toList).length<=140737488355328) :
  Calls Tryz.prog 99 #[.slice (some ⟨bk,o,none⟩) xs.length c,.string sep] w fun e w'=>e=.returned (.string ⟨(Lib.join (xs.map (·.data.toList)) sep.data.toList).toArray⟩)/\Below w.heap.size w w':=Any.strings_Join P_ MS bk o c xs sep w hcells hbk hN hcap hlen
def Sp.nmj (xs:List ByteArray):ByteArray:=⟨(Lib.join (xs.map (·.data.toList)) [46]).toArray⟩
def Sp.nm (xs:List ByteArray):ByteArray:=if (Sp.chk xs).2=0 then Sp.nmj xs else ⟨#[]⟩
theorem P9 (r:List ByteArray):(Lib.joinTail [46] (r.map (·.data.toList))).length=r.length+Sp.bytes r:=by
 induction r with
 | nil=>rfl
 | cons a r ih=>
  have h:(Lib.joinTail [46] ((a::r).map (·.data.toList)))=([46]++a.data.toList)++Lib.joinTail [46] (r.map (·.data.toList)):=by simp[Lib.joinTail]
  rw[h,aA,ih];have e:a.data.toList.length=a.size:=by rw[jd];rfl
  simp[Sp.bytes,e];omega
theorem Zg (xs:List ByteArray):(Lib.join (xs.map (·.data.toList)) [46]).length<=xs.length+Sp.bytes xs:=by
 cases xs with
 | nil=>simp[Lib.join,Sp.bytes]
 | cons a r=>
  rw[fF,Lib.join_cons,aA,P9];have e:a.data.toList.length=a.size:=by rw[jd];rfl
  simp[Sp.bytes,e];omega
theorem Sp.ah0 (l:List ByteArray):∀ i r,Sp.bad l i=some r->¬r.2=0:=by
 induction l with
 | nil=>intro i r h;simp[Sp.bad] at h
 | cons s l ih=>
  intro i r h;unfold Sp.bad at h;split at h
  ·injection h with h;subst h;simp
  ·split at h
   ·injection h with h;subst h;simp
   ·exact ih _ _ h
theorem Sp.ac1 (xs:List ByteArray)(h:(Sp.chk xs).2=0):xs.length<=127/\Sp.bytes xs<=253/\xs≠[]:=by
 unfold Sp.chk at h;by_cases h0:xs=[]
 ·rw[aj h0] at h;simp at h
 ·rw[ah h0] at h;cases hb:Sp.bad xs 0 with
  | some r=>
   rw[hb] at h;simp only at h;exact absurd h (Sp.ah0 xs 0 r hb)
  | none=>
   rw[hb] at h;simp only at h;by_cases hc:127<xs.length\/253<xs.length-1+Sp.bytes xs
   ·rw[aj hc] at h;simp at h
   ·exact⟨by omega,by omega,h0⟩
theorem name_any (A:Option Addr)(c:Nat)(xs:List ByteArray)(B:Nat)(w:World)(hr:Rd w B 1 A xs.length (strs xs))(hB:B<=w.heap.size)(hl:xs.length<=100000000000000000)(hc:xs.length<=c) :
  Calls Tryz.prog 124 #[.slice A xs.length c] w fun e w'=>e=.returned (.tuple #[.string (Sp.nm xs),.int .i64 (Sp.chk xs).2])/\Below w.heap.size w w':=by
 have HR:=jP hr;clear hr;have hck:=OO A c xs B w HR.1 hl;by_cases h0:(Sp.chk xs).2=0
 ·obtain⟨h1,h2,h3⟩:=Sp.ac1 xs h0;have hnm:Sp.nm xs=Sp.nmj xs:=aj h0;have hjl:=Zg xs;obtain⟨b,off,hA,hb,hcell⟩:=HR.1.2 (by rw[pF];exact dK.2 h3);subst hA;have hjn:=join_some b off c xs ⟨#[46]⟩ w (fun j x hx=>hcell j _ (by rw[xQ,hx];rfl)) (by omega) (by omega) hc (by show (Lib.join (xs.map (·.data.toList)) [46]).length<=_;omega);rw[h0] at hck ⊢;rw[hnm];unfold Sp.nmj;have BF:=jP hck;have FY:=jP hjn;clear hck hjn hcell hnm h0 hjl h3 h2;generalize (Sp.chk xs).1=at0 at *;generalize hn:xs.length=n at *;go_enter Tryz.func124,Tryz.ntmps124
  go_wp2_with fail
  refine BF.1.mono ?_;rintro e w' ⟨rfl,rfl⟩;go_wp2_with fail
  refine FY.1.mono ?_;rintro e w1 ⟨rfl,hb1⟩;have HB:=jP hb1;clear hb1;go_wp2
  go_ret2
  exact⟨rfl,HB.1⟩
 ·have hnm:Sp.nm xs=⟨#[]⟩:=ah h0;rw[hnm];have hne:((Sp.chk xs).2 != 0)=true:=by simpa using h0
  have BF:=jP hck;clear hck hnm h0;generalize (Sp.chk xs).1=at0 at *;generalize (Sp.chk xs).2=er at *;generalize hn:xs.length=n at *;go_enter Tryz.func124,Tryz.ntmps124
  go_wp2_with fail
  refine BF.1.mono ?_;rintro e w' ⟨rfl,rfl⟩;go_wp2
  go_ret2
  exact⟨rfl,ai _ _⟩
end Go.Proofs.YtkachcflifhgiaaGreatDoor
namespace Go.Proofs.YtkachcflifhgiaaGreatDoor.Gm
open Go.Proofs.YtkachcflifhgiaaGreatDoor (Nm Rs Rc)
def tC (l:List Int):List Int×Int:=if Al.ascii l=true then (if Al.wW (Ut.enc l).1=true then Al.pts (Ut.enc l).1 else (l,0)) else (l,0)
def lab (T:Tab)(l:List Int):List Int×Int:=if (tC l).2≠0 then ([],(tC l).2) else if valid T (tC l).1≠0 then ([],valid T (tC l).1) else ((tC l).1,0)
def oG (T:Tab):List (List Int)->List (List Int)×Int
 | []=>([],0)
 | l::r=>if (lab T l).2≠0 then ([],(lab T l).2) else if (oG T r).2≠0 then ([],(oG T r).2) else ((lab T l).1::(oG T r).1,0)
def zW (T:Tab)(q:List Int):List (List Int)×Int:=
 if (oG T (Sp.labels q)).2≠0 then ([],(oG T (Sp.labels q)).2)
 else if (domain T (oG T (Sp.labels q)).1).2≠0 then ([],(domain T (oG T (Sp.labels q)).1).2) else ((oG T (Sp.labels q)).1,0)
def proc (T:Tab)(s:List UInt8):List (List Int)×Int:=
 if s.length=0 then ([],10) else if (Ut.dec s).2.2≠0 then ([],(Ut.dec s).2.2) else if (map T (Ut.dec s).1).2.2≠0 then ([],(map T (Ut.dec s).1).2.2)
 else if (qG T (map T (Ut.dec s).1).1).2≠0 then ([],(qG T (map T (Ut.dec s).1).1).2) else zW T (qG T (map T (Ut.dec s).1).1).1
def pO:List (List Int)->List ByteArray×Int
 | []=>([],0)
 | l::r=>if (Al.lab l).2≠0 then ([],(Al.lab l).2) else if (pO r).2≠0 then ([],(pO r).2) else (⟨(Al.lab l).1.toArray⟩::(pO r).1,0)
def mQ (T:Tab)(s:List UInt8):List (List Int)×ByteArray×Int:=
 if (proc T s).2≠0 then ([],⟨#[]⟩,(proc T s).2) else if (pO (proc T s).1).2≠0 then ([],⟨#[]⟩,(pO (proc T s).1).2)
 else if (Sp.chk (pO (proc T s).1).1).2≠0 then ([],⟨#[]⟩,(Sp.chk (pO (proc T s).1).1).2) else ((proc T s).1,Sp.nm (pO (proc T s).1).1,0)
def uP (T:Tab)(s:List UInt8):List UInt8×Int:=if (mQ T s).2.2≠0 then ([],(mQ T s).2.2) else Ut.enc (Sp.join (mQ T s).1)
def key (T:Tab)(l:List Int):List UInt8×Int:=if (xm T l).2≠0 then ([],(xm T l).2) else Ut.enc (xm T l).1
def lF:Nm:=⟨⟨#[]⟩,⟨#[]⟩,⟨#[]⟩⟩
def canon (T:Tab)(s:List UInt8):Nm×Int:=
 if (mQ T s).2.2≠0 then (lF,(mQ T s).2.2) else if (uP T s).2≠0 then (lF,(uP T s).2) else if (proc T s).1.length≠1 then (lF,21)
 else
  let l:=(proc T s).1.getD 0 []
  if (level T l).2≠0 then (lF,(level T l).2) else if 4<(level T l).1 then (lF,20) else if (key T l).2≠0 then (lF,(key T l).2) else if (key T l).1.length=0 then (lF,10)
  else (⟨(mQ T s).2.1,⟨(uP T s).1.toArray⟩,⟨(key T l).1.toArray⟩⟩,0)
def kgt (x y:ByteArray):Bool:=!(Go.Op.bytesLess x.toList y.toList||x.toList==y.toList)
def place (K:List ByteArray)(k:ByteArray):Nat->Nat
 | 0=>0
 | i+1=>if kgt (K.getD i ByteArray.empty) k=true then place K k i else i+1
def put (P:List (Nm×Nat))(n:Nm×Nat):List (Nm×Nat):=
 P.take (place (P.map (fun p=>p.1.k)) n.1.k P.length)++[n]++P.drop (place (P.map (fun p=>p.1.k)) n.1.k P.length)
def uA (T:Tab):Nat->List ByteArray->List (Nm×Nat)->List (Nm×Nat)×Int×Nat
 | _,[],P=>(P,0,0)
 | i,s::r,P=>if (canon T s.data.toList).2≠0 then ([],(canon T s.data.toList).2,i) else uA T (i+1) r (put P ((canon T s.data.toList).1,i))
def twin:List (Nm×Nat)->Option (Nm×Nat)
 | p::q::r=>if q.1.k=p.1.k then some q else twin (q::r)
 | _=>none
def make (T:Tab)(Iw:List ByteArray):List (Nm×Nat)×Rs:=
 if Iw.length=0 then ([],⟨10,-1,⟨#[]⟩,Rc.none,0⟩) else if 16<Iw.length then ([],⟨7,-1,⟨#[]⟩,Rc.none,0⟩)
 else if (uA T 0 Iw []).2.1≠0 then ([],⟨(uA T 0 Iw []).2.1,((uA T 0 Iw []).2.2:Int),⟨#[]⟩,Rc.none,0⟩) else match twin (uA T 0 Iw []).1 with
  | some p=>([],⟨22,(p.2:Int),p.1.a,Rc.none,0⟩)
  | none=>((uA T 0 Iw []).1,⟨0,-1,⟨#[]⟩,Rc.none,0⟩)
theorem JY {T:Tab}{s t:List UInt8}(h:proc T t=proc T s):canon T t=canon T s:=by
 have h1:mQ T t=mQ T s:=by unfold mQ;rw[h]
 have h2:uP T t=uP T s:=by unfold uP;rw[h1]
 unfold canon;rw[h1,h2,h]
theorem afq {T:Tab}{a:List Int}(h:¬(lab T a).2≠0):valid T (lab T a).1=0:=by
 unfold lab at *;by_cases h1:(tC a).2≠0
 ·rw[aj h1] at h;exact absurd h1 h
 ·rw[ah h1] at h ⊢;by_cases h2:valid T (tC a).1≠0
  ·rw[aj h2] at h;exact absurd h2 h
  ·rw[ah h2];exact bG.1 h2
theorem abU {T:Tab}:∀ {ls:List (List Int)} {l:List Int},oG T ls=([l],0)->valid T l=0
 | [],l,h=>by simp[oG] at h
 | a::r,l,h=>by
  unfold oG at h;by_cases h1:(lab T a).2≠0
  ·rw[aj h1] at h;simp at h
  ·rw[ah h1] at h;by_cases h2:(oG T r).2≠0
   ·rw[aj h2] at h;simp at h
   ·rw[ah h2] at h;simp only[Prod.mk.injEq,iJ,and_true] at h;rw[<-h.1];exact afq h1
theorem abq {T:Tab}{s:List UInt8}{l:List Int}(h:proc T s=([l],0)):valid T l=0/\(domain T [l]).2=0:=by
 unfold proc at h;by_cases h1:s.length=0
 ·rw[aj h1] at h;simp at h
 rw[ah h1] at h;by_cases h2:(Ut.dec s).2.2≠0
 ·rw[aj h2] at h;simp at h
 rw[ah h2] at h;by_cases h3:(map T (Ut.dec s).1).2.2≠0
 ·rw[aj h3] at h;simp at h
 rw[ah h3] at h;by_cases h4:(qG T (map T (Ut.dec s).1).1).2≠0
 ·rw[aj h4] at h;simp at h
 rw[ah h4] at h;generalize (qG T (map T (Ut.dec s).1).1).1=q at h;unfold zW at h;by_cases h5:(oG T (Sp.labels q)).2≠0
 ·rw[aj h5] at h;simp at h
 rw[ah h5] at h;by_cases h6:(domain T (oG T (Sp.labels q)).1).2≠0
 ·rw[aj h6] at h;simp at h
 rw[ah h6] at h;simp only[Prod.mk.injEq,and_true] at h;rw[h] at h6;exact⟨abU (ls:=Sp.labels q) (Prod.ext h (bG.1 h5)),bG.1 h6⟩
theorem Ur {T:Tab}{s:List UInt8}{q l:List Int}(h0:s.length≠0)(hd:Ut.dec s=(q,0,0))(hm:map T q=(q,0,0))(hn:qG T q=(q,0))(hq:∀ c∈q,c≠46)(hl:lab T q=(l,0))(hD:(domain T [l]).2=0):proc T s=([l],0):=by
 unfold proc;rw[ah h0,hd,ah (by simp)];simp only;rw[hm,ah (by simp)];simp only;rw[hn,ah (by simp)];have e:oG T [q]=([l],0):=by
  unfold oG;rw[hl,ah (by simp),show oG T []=([],0) from rfl,ah (by simp)]
 unfold zW;simp only;rw[WT hq,e,ah (by simp),ah (by simpa using hD)]
theorem ac2 {T:Tab}{s:List UInt8}{x:Nm}(h:canon T s=(x,0)) :
  ∃ (l:List Int) (A:List UInt8),proc T s=([l],0)/\Al.lab l=(A,0)/\valid T l=0/\(domain T [l]).2=0/\(Ut.enc l).2=0/\x.a=⟨A.toArray⟩/\x.u=⟨(Ut.enc l).1.toArray⟩/\x.k.size≠0/\x.k.size<=16384:=by
 unfold canon at h;by_cases h1:(mQ T s).2.2≠0
 ·rw[aj h1] at h;exact absurd (aV Prod.snd h) h1
 rw[ah h1] at h;by_cases h2:(uP T s).2≠0
 ·rw[aj h2] at h;exact absurd (aV Prod.snd h) h2
 rw[ah h2] at h;by_cases h3:(proc T s).1.length≠1
 ·rw[aj h3] at h;simp at h
 rw[ah h3] at h;obtain⟨l,hl⟩:∃ l,(proc T s).1=[l]:=by
  match hp:(proc T s).1 with
  | []=>rw[hp] at h3;simp at h3
  | [l]=>exact⟨l,rfl⟩
  | _::_::_=>rw[hp] at h3;simp at h3
 simp only[hl,List.getD_cons_zero] at h;by_cases h4:(level T l).2≠0
 ·rw[aj h4] at h;exact absurd (aV Prod.snd h) h4
 rw[ah h4] at h;by_cases h5:4<(level T l).1
 ·rw[aj h5] at h;simp at h
 rw[ah h5] at h;by_cases h6:(key T l).2≠0
 ·rw[aj h6] at h;exact absurd (aV Prod.snd h) h6
 rw[ah h6] at h;by_cases h7:(key T l).1.length=0
 ·rw[aj h7] at h;simp at h
 rw[ah h7] at h;simp only[Prod.mk.injEq,and_true] at h;have hasc:(mQ T s).2.2=0:=bG.1 h1;unfold mQ at h1;by_cases p0:(proc T s).2≠0
 ·rw[aj p0] at h1;exact absurd p0 h1
 have hp:proc T s=([l],0):=Prod.ext hl (bG.1 p0);rw[ah p0,hl] at h1;by_cases p1:(pO [l]).2≠0
 ·rw[aj p1] at h1;exact absurd p1 h1
 rw[ah p1] at h1;by_cases p2:(Sp.chk (pO [l]).1).2≠0
 ·rw[aj p2] at h1;exact absurd p2 h1
 have hA2:(Al.lab l).2=0:=by
  apply Classical.byContradiction;intro hne;apply p1;unfold pO;rw[aj hne];exact hne
 have hA:pO [l]=([⟨(Al.lab l).1.toArray⟩],0):=by
  unfold pO;rw[ah (by simpa using hA2),show pO []=([],0) from rfl,ah (by simp)]
 have ha:mQ T s=([l],Sp.nm [⟨(Al.lab l).1.toArray⟩],0):=by
  unfold mQ;rw[ah p0,hl,ah p1,ah p2,hA]
 have hnm:Sp.nm [⟨(Al.lab l).1.toArray⟩]=⟨(Al.lab l).1.toArray⟩:=by
  rw[hA] at p2;unfold Sp.nm;rw[aj (bG.1 p2)];unfold Sp.nmj;simp[Lib.join_one]
 have hu:uP T s=Ut.enc l:=by
  unfold uP;rw[ha,ah (by simp)];simp[Sp.join]
 obtain⟨hv,hd⟩:=abq hp;rw[ha,hu,hnm] at h;rw[hu] at h2;refine⟨l,(Al.lab l).1,hp,Prod.ext rfl hA2,hv,hd,bG.1 h2,by rw[<-h],by rw[<-h],?_,?_⟩
 ·rw[<-h];simpa[ByteArray.size] using h7
 ·rw[<-h];have hk:(key T l).1.length<=16384:=by
   unfold key;split
   ·simp
   ·unfold Ut.enc;split
    ·simp
    ·split
     ·simp
     ·have:=Ut.IU (xm T l).1;simp only;omega
  simpa[ByteArray.size] using hk
theorem JZ {T:Tab}(hT:Good T){s:List UInt8}{x:Nm}(h:canon T s=(x,0)) :
  canon T x.a.data.toList=(x,0)/\canon T x.u.data.toList=(x,0)/\0<x.a.size/\x.a.size<=63/\x.u.size<=1024/\0<x.k.size/\x.k.size<=16384:=by
 obtain⟨l,A,hp,hl,hv,hD,hue,ea,eu,hk0,hk1⟩:=ac2 h;obtain⟨h256,hl0,hAl,alZ,hA0,hcase⟩:=WV hv hl;have hof:=ET (zS hv);have ahb:(Ut.enc l).1=Ut.nX l:=by
  unfold Ut.enc;rw[ah (by omega),ah];simp only[dP,dA,not_exists,not_and];exact hof.2
 have hlen:=Ut.IU l;have ajJ:Ut.nX l≠[]:=by
  intro e;have:=Ut.EN l hof.2;rw[e] at this;have h1:=aV Prod.fst this;rw[show (Ut.oH []).1=[] from rfl] at h1;simp only at h1;rw[<-h1] at hl0;simp at hl0
 have hst:=Af hv;have ajK:lab T l=(l,0):=by
  have h0:tC l=(l,0):=by
   unfold tC;cases ha:Al.ascii l
   ·rw[ah (by simp)]
   ·rw[aj rfl,XQ hv ha,ah (by simp)]
  unfold lab;rw[h0,ah (by simp),ah (by simpa using hv)]
 have hpu:proc T (Ut.nX l)=([l],0):=Ur (by simpa using ajJ) (Ut.U_ hof.2 (by omega)) (XT hv) (XR hv) (fun c hc=>(hst c hc).1) ajK hD;have hpa:proc T A=([l],0):=by
  rcases hcase with ⟨_,e,_⟩ | ⟨hna,hX,alC,hasc⟩
  ·rw[e];exact hpu
  ·have hld:∀ c∈Pn.nums A,tK c:=fun c hc=>by
    obtain⟨b,hb,rfl⟩:=eG.1 hc;exact hAl b hb
   have hnl:(Pn.nums A).length=A.length:=by unfold Pn.nums;simp
   have hb:∀ b∈A,b.toNat<128:=fun b hb=>by have:=(hAl b hb).bd;omega
   have he:=Ut.Nc A hb;have E_:∀ c∈Pn.nums A,¬kS c=0:=fun c hc=>Oy (by have:=(hld c hc).bd;omega);have hdec:Ut.dec A=(Pn.nums A,0,0):=by
    have:=Ut.U_ E_ (by rw[he];omega);rwa [he] at this
   have hlb:lab T (Pn.nums A)=(l,0):=by
    have hen:(Ut.enc (Pn.nums A)).1=A:=by
     unfold Ut.enc;rw[ah (by omega),ah]
     ·exact he
     ·simp only[dP,dA,not_exists,not_and];exact E_
    have h0:tC (Pn.nums A)=(l,0):=by
     unfold tC;rw[aj hasc,hen,aj hX,alC]
    unfold lab;rw[h0,ah (by simp),ah (by simpa using hv)]
   exact Ur (by omega) hdec (afn (by omega) hld) (afm hT (by omega) hld) (fun c hc=>by
    obtain⟨b,hb,rfl⟩:=eG.1 hc;have:=hAl b hb;unfold tK at this;omega) hlb hD
 refine⟨?_,?_,by rw[ea];simpa[ByteArray.size] using hA0,by rw[ea];simpa[ByteArray.size] using alZ,?_,by omega,hk1⟩
 ·rw[ea,<-h];exact JY (by rw[hp];simpa using hpa)
 ·rw[eu,<-h];exact JY (by rw[hp,ahb];simpa using hpu)
 ·rw[eu,ahb];simp only[ByteArray.size,iR];omega
theorem Gy {T:Tab}{s:ByteArray}{x:Nm}(h:canon T s.data.toList=(x,0)):make T [s]=([(x,0)],Rs.fine):=by
 have e:uA T 0 [s] []=([(x,0)],0,0):=by
  unfold uA;rw[h,ah (by simp)];rfl
 unfold make;rw[e];simp[twin];rfl
end Go.Proofs.YtkachcflifhgiaaGreatDoor.Gm
