/-  -/
import Derived.Test.YtkachcflifhgiaaGreatDoorM09
import Derived.Lib.ItoaNum
import Derived.Shelf.Strings.OnBuilder
set_option linter.unusedVariables false
set_option maxRecDepth 100000
set_option maxHeartbeats 16000000
namespace Go.Proofs.YtkachcflifhgiaaGreatDoor
open Go
theorem ZW:∀ (l r:List UInt8) (n:Int),Rq.dg (l++r) n=(Rq.dg l n).bind (Rq.dg r)
 | [],r,n=>rfl
 | b::l,r,n=>by
  rw[List.cons_append];by_cases h:48<=b.toNat/\b.toNat<=57
  ·rw[GL _ _ h,GL _ _ h];exact ZW l r _
  ·rw[QD _ _ h,QD _ _ h];rfl
theorem yT (u:Nat)(h:u<10):(UInt8.ofNat (48+u)).toNat=48+u:=by rw[UInt8.toNat_ofNat'];omega
theorem ZU (u:Nat)(h:u<10)(n:Int):Rq.dg [UInt8.ofNat (48+u)] n=some (10*n+(u:Int)):=by
 rw[GL _ _ (by rw[yT u h];omega),yT u h];show some _=some _;congr 1;omega
theorem JW {u:Nat}(h:u<10):Lib.decDigits u=[UInt8.ofNat (48+u)]:=by rw[Lib.decDigits,dif_pos h]
theorem JX {u:Nat}(h:¬u<10):Lib.decDigits u=Lib.decDigits (u/10)++[UInt8.ofNat (48+u%10)]:=by rw[Lib.decDigits,dif_neg h]
theorem ZV:∀ (f u:Nat),u<f->Rq.dg (Lib.decDigits u) 0=some (u:Int)
 | 0,u,h=>by omega
 | f+1,u,h=>by
  by_cases h10:u<10
  ·rw[JW h10,ZU u h10];congr 1;omega
  ·rw[JX h10,ZW,ZV f (u/10) (by omega)];show Rq.dg [UInt8.ofNat (48+u%10)] ((u/10:Nat):Int)=_;rw[ZU _ (by omega)];congr 1;omega
theorem QJ:∀ (k u:Nat),0<k->u<10 ^ k->(Lib.decDigits u).length<=k
 | 0,u,h,_=>by omega
 | k+1,u,_,h=>by
  by_cases h10:u<10
  ·rw[JW h10];simp
  ·have hk:0<k:=by
    rcases Nat.eq_zero_or_pos k with h0 | h0
    ·subst h0;omega
    ·exact h0
   have hu:u/10<10 ^ k:=by rw[Nat.pow_succ] at h;omega
   have:=QJ k (u/10) hk hu;rw[JX h10];simp;omega
theorem IW:∀ (f u:Nat),u<f->∀ c∈Lib.decDigits u,48<=c.toNat/\c.toNat<=57
 | 0,u,h=>by omega
 | f+1,u,h=>by
  intro c hc;by_cases h10:u<10
  ·rw[JW h10] at hc;rw[aB.1 hc,yT u h10];omega
  ·rw[JX h10] at hc;rcases aO.1 hc with hc | hc
   ·exact IW f (u/10) (by omega) c hc
   ·rw[aB.1 hc,yT _ (by omega)];omega
theorem adZ (u:Nat):Lib.decDigits u≠[]:=by
 by_cases h10:u<10
 ·rw[JW h10];simp
 ·rw[JX h10];simp
theorem Va:∀ (f u:Nat),u<f->1<=u->(Lib.decDigits u)[0]?≠some 48
 | 0,u,h,_=>by omega
 | f+1,u,h,h1=>by
  by_cases h10:u<10
  ·rw[JW h10];intro e;have e2:UInt8.ofNat (48+u)=48:=by simpa using e
   have:=yT u h10;rw[e2] at this;have h48:(48:UInt8).toNat=48:=rfl;omega
  ·rw[JX h10];have hl:0<(Lib.decDigits (u/10)).length:=dK.2 (adZ _);rw[bz hl];exact Va f (u/10) (by omega) (by omega)
theorem acS (n:Int)(h1:1<=n)(h2:n<=1073741824):Rq.dec (Lib.itoa n)=some n:=by
 have hi:Lib.itoa n=Lib.decDigits n.toNat:=by unfold Lib.itoa;rw[ah (by omega)]
 rw[hi];have hl:=QJ 10 n.toNat (by omega) (by omega);unfold Rq.dec;rw[ah,ZV (n.toNat+1) n.toNat (by omega)]
 ·congr 1;omega
 ·rintro (h | h | ⟨h,_⟩)
  ·exact adZ _ h
  ·omega
  ·exact Va (n.toNat+1) n.toNat (by omega) (by omega) h
def Rq.jn:List (List UInt8)->List UInt8
 | []=>[]
 | [w]=>w
 | w::v::r=>w++32::Rq.jn (v::r)
theorem Lj:∀ (l:List (List UInt8)),Lib.join l [32]=Rq.jn l
 | []=>rfl
 | [w]=>by simp[Lib.join,List.intercalate,Rq.jn]
 | w::v::r=>by
  have h:=Lj (v::r);unfold Lib.join List.intercalate at h ⊢;rw[show Rq.jn (w::v::r)=w++32::Rq.jn (v::r) from rfl,<-h];simp
theorem Yb:∀ (l:List (List UInt8)),l≠[]->(∀ w∈l,(32:UInt8)∉w)->Rq.pW (Rq.jn l)=l
 | [],h,_=>absurd rfl h
 | [w],_,hw=>OH (hw w (by simp))
 | w::v::r,_,hw=>by
  show Rq.pW (w++32::Rq.jn (v::r))=_;rw[Rq.DL _ _ (hw w (by simp)),Rq.L9,Yb (v::r) (by simp) (fun x hx=>hw x (List.mem_cons_of_mem _ hx))];simp[Rq.pre]
theorem G5:∀ (ns:List (List UInt8)),Rq.names (ns.map Rq.quote)=some ns
 | []=>rfl
 | x::r=>by
  have h:=Rq.NZ x;rw[fF,JC _ (by rw[h]),G5 r,h];rfl
def Rq.uC (op ttl:Int)(ns:List (List UInt8)):List (List UInt8):=Rq.wd op.toNat::((if Rq.oP op then [Lib.itoa ttl] else [])++ns.map Rq.quote)
def Rq.qV (op ttl:Int)(ns:List (List UInt8)):List UInt8:=Rq.jn (Rq.uC op ttl ns)
theorem aju:∀ j:Fin 8,(32:UInt8)∉Rq.wd j.val:=by decide
theorem ZB (op ttl:Int)(ns:List (List UInt8))(h0:0<op)(h7:op<=7):∀ w∈Rq.uC op ttl ns,(32:UInt8)∉w:=by
 intro w hw;unfold Rq.uC at hw;rcases aN.1 hw with rfl | hw
 ·exact aju ⟨op.toNat,by omega⟩
 ·rcases aO.1 hw with hw | hw
  ·split at hw
   ·rw[aB.1 hw];unfold Lib.itoa;intro h;split at h
    ·rcases aN.1 h with h | h
     ·cases h
     ·have:=(IW _ _ (Nat.lt_succ_self _) 32 h).1;revert this;decide
    ·have:=(IW _ _ (Nat.lt_succ_self _) 32 h).1;revert this;decide
   ·cases hw
  ·obtain⟨x,_,rfl⟩:=List.mem_map.1 hw;intro h;have:=(Rq.Yx x 32 h).1;revert this;decide
theorem round (op ttl:Int)(ns:List (List UInt8))(h0:0<op)(h7:op<=7)(ht:Rq.ttl op ttl=true)(hn:¬(op=7/\ns.length≠1))(hl:(Rq.qV op ttl ns).length<=4096) :
  Rq.parse (Rq.qV op ttl ns)=⟨op,ttl,ns,0⟩:=by
 have hs:Rq.pW (Rq.qV op ttl ns)=Rq.uC op ttl ns:=Yb _ (by unfold Rq.uC;simp) (ZB op ttl ns h0 h7);have ho:Rq.oper (Rq.wd op.toNat)=op:=by have:=Rq.Uy op.toNat (by omega) (by omega);rw[this];omega
 unfold Rq.parse;rw[ah (by omega),hs];show Rq.words (Rq.oper (Rq.wd op.toNat)) ((if Rq.oP op then [Lib.itoa ttl] else [])++ns.map Rq.quote)=_;rw[ho,Oo (by omega)];have hr:Rq.rest op ttl (ns.map Rq.quote)=⟨op,ttl,ns,0⟩:=by
  rw[MG (G5 ns),ah hn,aj ht]
 cases MZ:Rq.oP op
 ·rw[ah (by decide),ah (by decide)];have:ttl=0:=by unfold Rq.ttl at ht;rw[MZ] at ht;simpa using ht
  subst this;exact hr
 ·rw[aj rfl,aj rfl];have hb:1<=ttl/\ttl<=1073741824:=by unfold Rq.ttl at ht;rw[MZ] at ht;simpa using ht
  show (match Rq.dec (Lib.itoa ttl) with | none=>_ | some n=>Rq.rest op n (ns.map Rq.quote))=_;rw[acS ttl hb.1 hb.2];exact hr
end Go.Proofs.YtkachcflifhgiaaGreatDoor
