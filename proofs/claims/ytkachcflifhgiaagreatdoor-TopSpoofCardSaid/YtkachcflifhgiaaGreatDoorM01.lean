/-           -/

set_option linter.unusedVariables false
set_option maxRecDepth 100000
set_option maxHeartbeats 16000000
namespace Go.Proofs.YtkachcflifhgiaaGreatDoor
theorem bf:type_of% @Nat.zero_add:=@Nat.zero_add
theorem b_:type_of% @List.all_eq_true:=@List.all_eq_true
theorem eG:type_of% @List.mem_map:=@List.mem_map
theorem fJ:type_of% @Int.mul_le_mul_of_nonneg_right:=@Int.mul_le_mul_of_nonneg_right
theorem fU:type_of% @List.getElem?_take_of_lt:=@List.getElem?_take_of_lt
theorem fZ:type_of% @Int.eq_ofNat_of_zero_le:=@Int.eq_ofNat_of_zero_le
theorem gV:type_of% @Int.mul_nonneg:=@Int.mul_nonneg
theorem iG:type_of% @Int.emod_lt_of_pos:=@Int.emod_lt_of_pos
theorem iL:type_of% @Int.ediv_nonneg:=@Int.ediv_nonneg
theorem iZ:type_of% @Int.le_refl:=@Int.le_refl
theorem ji:type_of% @List.getElem?_drop:=@List.getElem?_drop
theorem jm:type_of% @Int.emod_nonneg:=@Int.emod_nonneg
theorem jC:type_of% @Nat.add_zero:=@Nat.add_zero
theorem jG:type_of% @Int.ediv_le_self:=@Int.ediv_le_self
theorem jO:type_of% @List.countP_append:=@List.countP_append
end Go.Proofs.YtkachcflifhgiaaGreatDoor
namespace Go.Proofs.YtkachcflifhgiaaGreatDoor.Pn
def pq (d:Int):UInt8:=if d<26 then UInt8.ofNat (97+d.toNat) else UInt8.ofNat (22+d.toNat)
def qW (b:UInt8):Option Int:=
 if 97<=(b.toNat:Int)/\(b.toNat:Int)<=122 then some ((b.toNat:Int)-97) else if 65<=(b.toNat:Int)/\(b.toNat:Int)<=90 then some ((b.toNat:Int)-65)
 else if 48<=(b.toNat:Int)/\(b.toNat:Int)<=57 then some ((b.toNat:Int)-48+26) else none
theorem U7 (d:Int)(h0:0<=d)(h1:d<=35):qW (pq d)=some d:=by
 obtain⟨n,rfl⟩:=fZ h0;have h:∀ n:Fin 36,qW (pq (n.1:Int))=some (n.1:Int):=by decide +kernel
 exact h ⟨n,by omega⟩
theorem U8 (d:Int)(h0:0<=d)(h1:d<=35):(97<=(pq d).toNat/\(pq d).toNat<=122)\/(48<=(pq d).toNat/\(pq d).toNat<=57):=by
 obtain⟨n,rfl⟩:=fZ h0;have h:∀ n:Fin 36,(97<=(pq (n.1:Int)).toNat/\(pq (n.1:Int)).toNat<=122)\/(48<=(pq (n.1:Int)).toNat/\(pq (n.1:Int)).toNat<=57):=by decide +kernel
 exact h ⟨n,by omega⟩
theorem U5 {b:UInt8}{d:Int}(h:qW b=some d):0<=d/\d<=35:=by
 unfold qW at h;split at h
 ·injection h;omega
 ·split at h
  ·injection h;omega
  ·split at h
   ·injection h;omega
   ·cases h
def lU (j bias:Int):Int:=min (max (36*(j+1)-bias) 1) 26
theorem yG (j b:Int):1<=lU j b:=by unfold lU;omega
theorem yH (j b:Int):lU j b<=26:=by unfold lU;omega
def pY:Nat->Int->Int->Int
 | 0,_,k=>k
 | f+1,d,k=>if 455<d then pY f (d/35) (k+36) else k+36*d/(d+38)
def tH (d p:Int)(first:Bool):Int:=(if first then d/700 else d/2)+(if first then d/700 else d/2)/p
def Kq (d p:Int):Bool:=decide (d<0\/1099511627776<d\/p<1\/4096<p)
def adapt (d p:Int)(first:Bool):Int:=if Kq d p then 0 else pY 20 (tH d p first) 0
theorem Ko (d p:Int)(first:Bool)(h0:0<=d)(h1:d<=1099511627776)(hp:1<=p):0<=tH d p first/\tH d p first<=1099511627776:=by
 unfold tH;have e:∀ x:Int,0<=x->0<=x/p/\x/p<=x:=fun x hx=>⟨iL hx (by omega),jG p hx⟩;cases first
 ·simp only[Bool.false_eq_true,if_false];have:=e (d/2) (by omega);omega
 ·simp only[if_true];have:=e (d/700) (by omega);omega
def Eh:Nat->Int->Prop
 | 0,_=>False
 | f+1,d=>d<=455\/Eh f (d/35)
theorem Hz:∀ (f:Nat) (d:Int),0<=d->d<=455*35 ^ f->Eh (f+1) d
 | 0,d,_,h=>.inl (by simpa using h)
 | f+1,d,h0,h=>.inr (Hz f (d/35) (by omega) (by
   have:(455:Int)*35 ^ (f+1)=455*35 ^ f*35:=by rw[Int.pow_succ];omega
   omega))
theorem Hy:∀ (f:Nat) (d k:Int),Eh f d->∀ g,f<=g->pY g d k=pY f d k
 | 0,_,_,h,_,_=>h.elim
 | f+1,d,k,h,0,hg=>by omega
 | f+1,d,k,h,g+1,hg=>by
  unfold pY;by_cases hd:455<d
  ·rw[if_pos hd,if_pos hd];exact Hy f (d/35) (k+36) (h.resolve_left (by omega)) g (by omega)
  ·rw[if_neg hd,if_neg hd]
theorem Hw (d k:Int)(hd:455<d)(h1:d<=1099511627776):pY 20 d k=pY 20 (d/35) (k+36):=by
 have h:Eh 19 (d/35):=Hz 18 _ (by omega) (by
  have:(455:Int)*35 ^ 18=455*35 ^ 18:=rfl;have h2:(1099511627776:Int)<=455*35 ^ 18:=by decide
  omega)
 rw[Hy 19 (d/35) (k+36) h 20 (by omega)];show (if 455<d then pY 19 (d/35) (k+36) else _)=_;rw[if_pos hd]
theorem Kr (d k:Int)(hd:¬455<d):pY 20 d k=k+36*d/(d+38):=by
 show (if 455<d then _ else _)=_;rw[if_neg hd]
theorem Ny:∀ (f:Nat) (d k:Int),0<=d->0<=k->0<=pY f d k/\pY f d k<=k+36*f
 | 0,d,k,_,hk=>by simp[pY,hk]
 | f+1,d,k,hd,hk=>by
  unfold pY;by_cases h:455<d
  ·rw[if_pos h];have:=Ny f (d/35) (k+36) (by omega) (by omega);omega
  ·rw[if_neg h];have h1:0<=36*d/(d+38):=iL (by omega) (by omega);have h2:36*d/(d+38)<36:=Int.ediv_lt_of_lt_mul (by omega) (by omega);omega
theorem IY (d p:Int)(first:Bool):0<=adapt d p first/\adapt d p first<=720:=by
 unfold adapt;by_cases h:Kq d p=true
 ·rw[if_pos h];omega
 ·rw[if_neg h];simp[Kq] at h;have:=Ko d p first (by omega) (by omega) (by omega)
  have:=Ny 20 (tH d p first) 0 (by omega) (by omega);omega
def vz:Nat->Int->Int->Int->List Int
 | 0,_,_,_=>[]
 | f+1,v,j,b=>if v<lU j b then [v] else (lU j b+(v-lU j b)%(36-lU j b))::vz f ((v-lU j b)/(36-lU j b)) (j+1) b
def Bf (v b:Int):List Int:=vz (v.toNat+1) v 0 b
theorem Aa (v t:Int)(h0:0<=v)(h1:1<=t)(h2:t<=26)(h:¬v<t):0<=(v-t)/(36-t)/\(v-t)/(36-t)<v:=by
 have a:0<=(v-t)/(36-t):=iL (by omega) (by omega);have b:(v-t)/(36-t)<=v-t:=jG _ (by omega);omega
theorem Nh:∀ (f:Nat) (v j b:Int),0<=v->v.toNat<f->∀ g,v.toNat<g->vz g v j b=vz f v j b
 | 0,_,_,_,_,h,_,_=>by omega
 | f+1,_,_,_,_,_,0,h=>by omega
 | f+1,v,j,b,h0,h,g+1,hg=>by
  unfold vz;by_cases hv:v<lU j b
  ·rw[if_pos hv,if_pos hv]
  ·rw[if_neg hv,if_neg hv];obtain⟨s1,s2⟩:=Aa v (lU j b) h0 (yG j b) (yH j b) hv;rw[Nh f ((v-lU j b)/(36-lU j b)) (j+1) b s1 (by omega) g (by omega)]
def CY (v j b:Int):List Int:=vz (v.toNat+1) v j b
theorem Fq (v j b:Int)(h:v<lU j b):CY v j b=[v]:=by
 unfold CY vz;rw[if_pos h]
theorem Nk (v j b:Int)(h0:0<=v)(h:¬v<lU j b):CY v j b=(lU j b+(v-lU j b)%(36-lU j b))::CY ((v-lU j b)/(36-lU j b)) (j+1) b:=by
 obtain⟨s1,s2⟩:=Aa v (lU j b) h0 (yG j b) (yH j b) h;show vz (v.toNat+1) v j b=_;unfold vz;rw[if_neg h];unfold CY;rw[Nh _ _ _ _ s1 (Nat.lt_succ_self _) v.toNat (by omega)]
theorem U6:∀ (f:Nat) (v j b:Int),0<=v->∀ d∈vz f v j b,0<=d/\d<=35
 | 0,_,_,_,_,d,h=>by cases h
 | f+1,v,j,b,h0,d,h=>by
  have t1:=yG j b;have t2:=yH j b;unfold vz at h;by_cases hv:v<lU j b
  ·rw[if_pos hv] at h;have:d=v:=by simpa using h
   omega
  ·rw[if_neg hv] at h;rcases List.mem_cons.1 h with rfl | h
   ·have:=jm (v-lU j b) (show 36-lU j b≠0 by omega);have:=iG (v-lU j b) (show 0<36-lU j b by omega);omega
   ·exact U6 f _ _ _ (Aa v (lU j b) h0 t1 t2 hv).1 d h
theorem afX (f:Nat)(v j b:Int):vz (f+1) v j b≠[]:=by
 unfold vz;split<;>simp
theorem ahM (v b:Int):Bf v b=CY v 0 b:=rfl
theorem QC:∀ (f:Nat) (v j b:Int),0<=v->v<10 ^ f->(vz (v.toNat+1) v j b).length<=f+1
 | 0,v,j,b,h0,h=>by
  have:v=0:=by simp at h;omega
  subst this;have:=Fq 0 j b (by have:=yG j b;omega);unfold CY at this;rw[this];simp
 | f+1,v,j,b,h0,h=>by
  have t1:=yG j b;have t2:=yH j b;by_cases hv:v<lU j b
  ·have:=Fq v j b hv;unfold CY at this;rw[this];simp
  ·have:=Nk v j b h0 hv;obtain⟨s1,_⟩:=Aa v (lU j b) h0 t1 t2 hv;unfold CY at this;rw[this,List.length_cons];have hd:(v-lU j b)/(36-lU j b)<10 ^ f:=by
    apply Int.ediv_lt_of_lt_mul (by omega);have e:(10:Int) ^ (f+1)=10 ^ f*10:=Int.pow_succ ..;have hp:(0:Int)<10 ^ f:=Int.pow_pos (by omega);have:(10:Int) ^ f*10<=10 ^ f*(36-lU j b):=Int.mul_le_mul_of_nonneg_left (by omega) (by omega);omega
   have:=QC f _ (j+1) b s1 hd;omega
def cap (x:Int):Int:=min x 2147483648
def rd:List UInt8->Int->Int->Int->Int->Option (Int×List UInt8)
 | [],_,_,_,_=>none
 | c::r,j,v,w,b=>match qW c with
  | none=>none
  | some d=>if d<lU j b then some (cap (v+d*w),r) else rd r (j+1) (cap (v+d*w)) (cap (w*(36-lU j b))) b
theorem Yv {c:UInt8}(h:qW c=none)(r:List UInt8)(j v w b:Int):rd (c::r) j v w b=none:=by unfold rd;rw[h]
theorem KT {c:UInt8}{d:Int}(h:qW c=some d)(r:List UInt8)(j v w b:Int)(hd:d<lU j b):rd (c::r) j v w b=some (cap (v+d*w),r):=by unfold rd;rw[h];simp[hd]
theorem KR {c:UInt8}{d:Int}(h:qW c=some d)(r:List UInt8)(j v w b:Int)(hd:¬d<lU j b):rd (c::r) j v w b=rd r (j+1) (cap (v+d*w)) (cap (w*(36-lU j b))) b:=by conv=>lhs;unfold rd;rw[h];simp[hd]
theorem Js:∀ (s:List UInt8) (j v w b:Int) (x:Int) (r:List UInt8),0<=v->0<=w->rd s j v w b=some (x,r)->0<=x/\x<=2147483648/\r.length<s.length/\r <:+ s
 | [],_,_,_,_,_,_,_,_,h=>by cases h
 | c::r,j,v,w,b,x,y,hv,hw,h=>by
  cases hd:qW c with
  | none=>rw[Yv hd] at h;cases h
  | some d=>
   have hb:=U5 hd;have hm:0<=d*w:=gV hb.1 hw;by_cases ht:d<lU j b
   ·rw[KT hd _ _ _ _ _ ht] at h;injection h with h;injection h with h1 h2
    subst h1;subst h2;refine⟨by unfold cap;omega,by unfold cap;omega,by simp,List.suffix_cons _ _⟩
   ·rw[KR hd _ _ _ _ _ ht] at h;have hw2:0<=w*(36-lU j b):=gV hw (by have:=yH j b;omega);obtain⟨g1,g2,g3,g4⟩:=Js r _ _ _ _ x y (by unfold cap;omega) (by unfold cap;omega) h;exact⟨g1,g2,by simp;omega,g4.trans (List.suffix_cons _ _)⟩
theorem ZT (v t:Int)(h1:1<=t)(h2:t<=26):v=t+(v-t)%(36-t)+(36-t)*((v-t)/(36-t)):=by
 have:=Int.emod_add_mul_ediv (v-t) (36-t);omega
theorem O6:∀ (f:Nat) (v:Int) (_:v.toNat<f) (j x w b:Int) (r:List UInt8),0<=v->0<=x->0<=w->x+v*w<=2147483647 ->
  rd ((vz f v j b).map pq++r) j x w b=some (x+v*w,r)
 | 0,_,h,_,_,_,_,_,_,_,_,_=>by omega
 | f+1,v,hf,j,x,w,b,r,hv,hx,hw,hb=>by
  have t1:=yG j b;have t2:=yH j b;unfold vz;by_cases h:v<lU j b
  ·rw[if_pos h];show rd (pq v::([]++r)) j x w b=_;rw[KT (U7 v hv (by omega)) _ _ _ _ _ h];simp only[cap,List.nil_append];rw[Int.min_eq_left (by omega)]
  ·rw[if_neg h];obtain⟨s1,s2⟩:=Aa v (lU j b) hv t1 t2 h;have m1:=jm (v-lU j b) (show 36-lU j b≠0 by omega);have m2:=iG (v-lU j b) (show 0<36-lU j b by omega);have hs:=ZT v (lU j b) t1 t2;generalize hq:(v-lU j b)/(36-lU j b)=q at *;generalize hd:lU j b+(v-lU j b)%(36-lU j b)=d at *;have hdb:0<=d/\d<=35:=by omega
   show rd (pq d::((vz f q (j+1) b).map pq++r)) j x w b=_;rw[KR (U7 d hdb.1 hdb.2) _ _ _ _ _ (by omega)];have e1:v*w=d*w+q*(w*(36-lU j b)):=by
    conv=>lhs;rw[hs]
    rw[Int.add_mul,Int.mul_comm (36-lU j b) q,Int.mul_assoc,Int.mul_comm (36-lU j b) w]
   have p1:0<=d*w:=gV hdb.1 hw;have p2:0<=w*(36-lU j b):=gV hw (by omega);have p3:0<=q*(w*(36-lU j b)):=gV s1 p2;have c1:cap (x+d*w)=x+d*w:=by unfold cap;omega
   rw[c1];by_cases hc:w*(36-lU j b)<=2147483648
   ·have c2:cap (w*(36-lU j b))=w*(36-lU j b):=by unfold cap;omega
    rw[c2,O6 f q (by omega) (j+1) (x+d*w) _ b r s1 (by omega) p2 (by omega)];congr 2;omega
   ·have c2:cap (w*(36-lU j b))=2147483648:=by unfold cap;omega
    have hq0:q=0:=by
     rcases Int.lt_or_le 0 q with h0 | h0
     ·have:1*(w*(36-lU j b))<=q*(w*(36-lU j b)):=fJ (by omega) p2;omega
     ·omega
    subst hq0;rw[c2,O6 f 0 (by omega) (j+1) (x+d*w) _ b r s1 (by omega) (by omega) (by omega)];congr 2;omega
theorem aeV (v b:Int)(r:List UInt8)(h0:0<=v)(h1:v<=2147483647):rd ((Bf v b).map pq++r) 0 0 1 b=some (v,r):=by
 have:=O6 (v.toNat+1) v (by omega) 0 0 1 b r h0 (by omega) (by omega) (by omega);unfold Bf;rw[this];congr 2;omega
end Go.Proofs.YtkachcflifhgiaaGreatDoor.Pn
namespace Go.Proofs.YtkachcflifhgiaaGreatDoor.Pn
def Ge (l:List Int)(m:Int)(k p:Nat):Prop:=p<l.length/\(m<l.getD p 0\/(l.getD p 0=m/\k<=p))
instance (l:List Int) (m:Int) (k p:Nat):Decidable (Ge l m k p):=by unfold Ge;exact inferInstance
def tN (l:List Int)(m:Int)(k p:Nat):Prop:=Ge l m k p/\∀ q,Ge l m k q->l.getD p 0<l.getD q 0\/(l.getD p 0=l.getD q 0/\p<=q)
def rF (l:List Int)(m:Int)(k:Nat):Nat->Option Nat
 | 0=>none
 | j+1=>if Ge l m k j then (match rF l m k j with | none=>some j | some b=>if l.getD j 0<l.getD b 0 then some j else some b) else rF l m k j
def next (l:List Int)(m:Int)(k:Nat):Option Nat:=rF l m k l.length
theorem CQ (l:List Int)(m:Int)(k:Nat):∀ j,(∀ p,rF l m k j=some p->Ge l m k p/\p<j/\∀ q,q<j->Ge l m k q->l.getD p 0<l.getD q 0\/(l.getD p 0=l.getD q 0/\p<=q)) /\
  (rF l m k j=none->∀ q,q<j->¬Ge l m k q)
 | 0=>⟨fun p h=>(by cases h),fun _ q hq=>(by omega)⟩
 | j+1=>by
  obtain⟨h1,h2⟩:=CQ l m k j;by_cases hg:Ge l m k j
  ·cases hn:rF l m k j with
   | none=>
    have e:rF l m k (j+1)=some j:=by unfold rF;rw[if_pos hg,hn]
    rw[e];refine⟨fun p hp=>?_,fun h=>by cases h⟩;injection hp with hp;subst hp
    refine⟨hg,by omega,fun q hq hgq=>?_⟩;by_cases hqj:q=j
    ·subst hqj;exact .inr ⟨rfl,Nat.le_refl _⟩
    ·exact absurd hgq (h2 hn q (by omega))
   | some b=>
    obtain⟨g1,g2,g3⟩:=h1 b hn;by_cases hlt:l.getD j 0<l.getD b 0
    ·have e:rF l m k (j+1)=some j:=by unfold rF;rw[if_pos hg,hn];simp only;rw[if_pos hlt]
     rw[e];refine⟨fun p hp=>?_,fun h=>by cases h⟩;injection hp with hp;subst hp
     refine⟨hg,by omega,fun q hq hgq=>?_⟩;by_cases hqj:q=j
     ·subst hqj;exact .inr ⟨rfl,Nat.le_refl _⟩
     ·have:=g3 q (by omega) hgq;exact .inl (by omega)
    ·have e:rF l m k (j+1)=some b:=by unfold rF;rw[if_pos hg,hn];simp only;rw[if_neg hlt]
     rw[e];refine⟨fun p hp=>?_,fun h=>by cases h⟩;injection hp with hp;subst hp
     refine⟨g1,by omega,fun q hq hgq=>?_⟩;by_cases hqj:q=j
     ·subst hqj;omega
     ·exact g3 q (by omega) hgq
  ·have e:rF l m k (j+1)=rF l m k j:=by (conv=>lhs;unfold rF);rw[if_neg hg]
   rw[e];refine⟨fun p hp=>?_,fun hn q hq=>?_⟩
   ·obtain⟨g1,g2,g3⟩:=h1 p hp;refine⟨g1,by omega,fun q hq hgq=>?_⟩;by_cases hqj:q=j
    ·subst hqj;exact absurd hgq hg
    ·exact g3 q (by omega) hgq
   ·by_cases hqj:q=j
    ·subst hqj;exact hg
    ·exact h2 hn q (by omega)
theorem Oa {l:List Int}{m:Int}{k p p':Nat}(h:tN l m k p)(h':tN l m k p'):p=p':=by
 have a:=h.2 p' h'.1;have b:=h'.2 p h.1;omega
theorem uV {l:List Int}{m:Int}{k p:Nat}(h:next l m k=some p):tN l m k p:=by
 obtain⟨g1,_,g3⟩:=(CQ l m k l.length).1 p h;exact⟨g1,fun q hq=>g3 q hq.1 hq⟩
theorem yP {l:List Int}{m:Int}{k:Nat}(h:next l m k=none):∀ q,¬Ge l m k q:=fun q hq=>(CQ l m k l.length).2 h q hq.1 hq
theorem UB {l:List Int}{m:Int}{k p:Nat}(h:tN l m k p):next l m k=some p:=by
 cases hn:next l m k with
 | none=>exact absurd h.1 (yP hn p)
 | some q=>rw[Oa h (uV hn)]
theorem Ld {l:List Int}{m:Int}{k:Nat}(h:∀ q,¬Ge l m k q):next l m k=none:=by
 cases hn:next l m k with
 | none=>rfl
 | some q=>exact absurd (uV hn).1 (h q)
theorem IQ {l:List Int}{m:Int}{k p:Nat}(h:tN l m k p)(q:Nat):Ge l (l.getD p 0) (p+1) q↔Ge l m k q/\q≠p:=by
 obtain⟨h1,h2⟩:=h;constructor
 ·rintro⟨g1,g2⟩;refine⟨⟨g1,?_⟩,?_⟩
  ·obtain⟨_,h1⟩:=h1;omega
  ·rintro rfl;omega
 ·rintro⟨g1,g2⟩;have:=h2 q g1;exact⟨g1.1,by omega⟩
structure St where
 n:Int
 i:Int
 b:Int
 first:Bool
 h:Nat
 deriving DecidableEq
def rM (x:List Int)(c:Int):Nat:=x.countP (fun y=>decide (y<=c))
def num (l:List Int)(st:St)(p:Nat):Int:=(l.getD p 0-st.n)*(st.h+1)+rM (l.take p) (l.getD p 0)-st.i
def emit (l:List Int)(st:St)(p:Nat):St:=⟨l.getD p 0,rM (l.take p) (l.getD p 0)+1,adapt (num l st p) (st.h+1) st.first,false,st.h+1⟩
def Em (l:List Int):Nat->Int->Nat->St->List Int
 | 0,_,_,_=>[]
 | f+1,m,k,st=>match next l m k with
  | none=>[]
  | some p=>Bf (num l st p) st.b++Em l f (l.getD p 0) (p+1) (emit l st p)
def left (l:List Int)(m:Int)(k:Nat):Nat:=(List.range l.length).countP (fun q=>decide (Ge l m k q))
theorem left_le (l:List Int)(m:Int)(k:Nat):left l m k<=l.length:=by
 unfold left;have:=List.countP_le_length (p:=fun q=>decide (Ge l m k q)) (l:=List.range l.length);simpa using this
theorem left_step {l:List Int}{m:Int}{k p:Nat}(h:tN l m k p):left l (l.getD p 0) (p+1)<left l m k:=by
 unfold left;have hp:p<l.length:=h.1.1;have key:∀ n,p<n->n<=l.length->(List.range n).countP (fun q=>decide (Ge l (l.getD p 0) (p+1) q))<(List.range n).countP (fun q=>decide (Ge l m k q)):=by
  intro n;induction n with
  | zero=>intro h _;omega
  | succ n ih=>
   intro hn hl;rw[List.range_succ,jO,jO];by_cases hpn:p<n
   ·have:=ih hpn (by omega);have hle:List.countP (fun q=>decide (Ge l (l.getD p 0) (p+1) q)) [n]<=List.countP (fun q=>decide (Ge l m k q)) [n]:=by
     apply List.countP_mono_left;intro q _ hq;simp only[decide_eq_true_eq] at hq ⊢;exact ((IQ h q).1 hq).1
    omega
   ·have alD:p=n:=by omega
    subst alD;have hle:(List.range p).countP (fun q=>decide (Ge l (l.getD p 0) (p+1) q))<=(List.range p).countP (fun q=>decide (Ge l m k q)):=by
     apply List.countP_mono_left;intro q _ hq;simp only[decide_eq_true_eq] at hq ⊢;exact ((IQ h q).1 hq).1
    have h1:¬Ge l (l.getD p 0) (p+1) p:=fun hg=>((IQ h p).1 hg).2 rfl;simp only[List.countP_cons,List.countP_nil,h1,h.1,decide_true,decide_false,if_true,if_false,Bool.false_eq_true];omega
 exact key l.length hp (Nat.le_refl _)
theorem BQ {l:List Int}{m:Int}{k:Nat}(h:left l m k=0):∀ q,¬Ge l m k q:=by
 intro q hq;unfold left at h;rw[List.countP_eq_zero] at h;have:=h q (by simp;exact hq.1);simp[hq] at this
theorem OA (l:List Int):∀ (f:Nat) (m:Int) (k:Nat) (st:St),left l m k<=f->∀ g,left l m k<=g->Em l g m k st=Em l f m k st
 | 0,m,k,st,h,g,_=>by
  have hn:=Ld (BQ (show left l m k=0 by omega));cases g with
  | zero=>rfl
  | succ g=>unfold Em;rw[hn]
 | f+1,m,k,st,h,g,hg=>by
  cases hn:next l m k with
  | none=>
   cases g with
   | zero=>unfold Em;rw[hn]
   | succ g=>unfold Em;rw[hn]
  | some p=>
   have hl:=left_step (uV hn);cases g with
   | zero=>omega
   | succ g=>
    unfold Em;rw[hn];simp only;rw[OA l f (l.getD p 0) (p+1) _ (by omega) g (by omega)]
def tl (l:List Int)(m:Int)(k:Nat)(st:St):List Int:=Em l l.length m k st
theorem Gl {l:List Int}{m:Int}{k p:Nat}(h:tN l m k p)(st:St):tl l m k st=Bf (num l st p) st.b++tl l (l.getD p 0) (p+1) (emit l st p):=by
 have hl:=left_step h;have:=left_le l m k;show Em l l.length m k st=_;obtain⟨f,hf⟩:∃ f,l.length=f+1:=⟨l.length-1,by omega⟩;unfold tl;rw[hf];conv=>lhs;unfold Em
 rw[UB h];simp only;rw[OA l f _ _ _ (by omega) (f+1) (by omega)]
theorem Gp {l:List Int}{m:Int}{k:Nat}(h:∀ q,¬Ge l m k q)(st:St):tl l m k st=[]:=by
 unfold tl;cases l.length with
 | zero=>rfl
 | succ f=>unfold Em;rw[Ld h]
theorem YK {l:List Int}{m m':Int}{k k':Nat}(h:∀ q,Ge l m k q↔Ge l m' k' q):next l m k=next l m' k':=by
 cases hn:next l m k with
 | none=>exact (Ld (fun q hq=>yP hn q ((h q).2 hq))).symm
 | some p=>
  have:=uV hn;exact (UB ⟨(h p).1 this.1,fun q hq=>this.2 q ((h q).2 hq)⟩).symm
theorem Gn {l:List Int}{m m':Int}{k k':Nat}(h:∀ q,Ge l m k q↔Ge l m' k' q)(st:St):tl l m k st=tl l m' k' st:=by
 unfold tl;cases l.length with
 | zero=>rfl
 | succ f=>unfold Em;rw[YK h]
def basics (l:List Int):List Int:=l.filter (fun c=>decide (c<128))
def st0 (l:List Int):St:=⟨128,0,72,true,(basics l).length⟩
def byte (c:Int):UInt8:=UInt8.ofNat c.toNat
def front (l:List Int):List UInt8:=(basics l).map byte++(if (basics l).length=0 then [] else [45])
def enc (l:List Int):List UInt8:=front l++(tl l 128 0 (st0 l)).map pq
def scalar (c:Int):Bool:=decide (0<=c/\c<=1114111/\(c<55296\/57343<c))
def nV (l:List Int):List UInt8×Int:=if 256<l.length then ([],7) else if l.all scalar then (enc l,0) else ([],3)
def PL (l:List Int)(m:Int)(k:Nat):List Int:=(l.take k).filter (fun c=>decide (c<=m))++(l.drop k).filter (fun c=>decide (c<m))
def uy:List Int->Nat->(Nat->Bool)->List Int
 | [],_,_=>[]
 | c::r,o,P=>if P o then c::uy r (o+1) P else uy r (o+1) P
theorem Jk:∀ (x y:List Int) (o:Nat) (P:Nat->Bool),uy (x++y) o P=uy x o P++uy y (o+x.length) P
 | [],y,o,P=>rfl
 | c::r,y,o,P=>by
  show (if P o then c::uy (r++y) (o+1) P else uy (r++y) (o+1) P)=(if P o then c::uy r (o+1) P else uy r (o+1) P)++_;rw[Jk r y (o+1) P,show o+1+r.length=o+(c::r).length by simp;omega];split<;>simp
theorem Me:∀ (x:List Int) (o:Nat) (P Q:Nat->Bool),(∀ q,q<x.length->P (o+q)=Q (o+q))->uy x o P=uy x o Q
 | [],_,_,_,_=>rfl
 | c::r,o,P,Q,h=>by
  have h0:=h 0 (by simp);simp only[jC] at h0;show (if P o then c::uy r (o+1) P else uy r (o+1) P)=(if Q o then c::uy r (o+1) Q else uy r (o+1) Q);rw[h0,Me r (o+1) P Q (fun q hq=>by have:=h (q+1) (by simp;omega);rwa [show o+1+q=o+(q+1) by omega])]
theorem zT:∀ (x:List Int) (o:Nat) (P:Nat->Bool) (f:Int->Bool),(∀ q c,x[q]?=some c->P (o+q)=f c)->uy x o P=x.filter f
 | [],_,_,_,_=>rfl
 | c::r,o,P,f,h=>by
  have h0:=h 0 c (by simp);simp only[jC] at h0;show (if P o then c::uy r (o+1) P else uy r (o+1) P)=_;rw[h0,zT r (o+1) P f (fun q d hq=>by have:=h (q+1) d (by simpa using hq);rwa [show o+1+q=o+(q+1) by omega]),List.filter_cons]
def ng (l:List Int)(m:Int)(k q:Nat):Bool:=decide (l.getD q 0<m\/(l.getD q 0=m/\q<k))
theorem FO (l:List Int)(m:Int)(k:Nat):PL l m k=uy l 0 (ng l m k):=by
 conv=>rhs;rw[<-List.take_append_drop k l]
 rw[Jk];unfold PL;have hd:∀ q c,l[q]?=some c->l.getD q 0=c:=fun q c h=>by simp[List.getD_eq_getElem?_getD,h]
 rw[List.take_append_drop];congr 1
 ·refine (zT _ _ _ _ (fun q c h=>?_)).symm;have hq:q<k:=by
   have:=(List.getElem?_eq_some_iff.1 h).1;simp at this;omega
  have hc:l[q]?=some c:=by rw[fU hq] at h;exact h
  unfold ng;rw[bf,hd q c hc];by_cases h1:c<=m
  ·simp[h1];omega
  ·simp[h1];omega
 ·refine (zT _ _ _ _ (fun q c h=>?_)).symm;have hc:l[k+q]?=some c:=by rw[ji] at h;exact h
  have hk:k<=l.length:=by have:=(List.getElem?_eq_some_iff.1 hc).1;omega
  have hlt:(l.take k).length=k:=by simp;omega
  unfold ng;rw[hlt,show 0+k+q=k+q by omega,hd _ c hc];by_cases h1:c<m
  ·simp[h1]
  ·simp[h1]
theorem JA (l:List Int)(m:Int)(k q:Nat)(hq:q<l.length):ng l m k q=true↔¬Ge l m k q:=by
 unfold ng Ge;simp only[decide_eq_true_eq];omega
theorem Du {l:List Int}{m m':Int}{k k':Nat}(h:∀ q,Ge l m k q↔Ge l m' k' q):PL l m k=PL l m' k':=by
 rw[FO,FO];refine Me _ _ _ _ (fun q hq=>?_);rw[bf,Bool.eq_iff_iff,JA l m k q hq,JA l m' k' q hq,h q]
theorem afB {l:List Int}{m:Int}{k p:Nat}(h:tN l m k p)(q:Nat):Ge l m k q↔Ge l (l.getD p 0) p q:=by
 obtain⟨h1,h2⟩:=h;constructor
 ·intro hq;have:=h2 q hq;exact⟨hq.1,by omega⟩
 ·rintro⟨g1,g2⟩;refine⟨g1,?_⟩;obtain⟨_,h1⟩:=h1;omega
theorem getD_at {l:List Int}{p:Nat}(hp:p<l.length):l.getD p 0=l[p]:=by simp[List.getD_eq_getElem?_getD,List.getElem?_eq_getElem hp]
theorem Dt {l:List Int}{m:Int}{k p:Nat}(h:tN l m k p) :
  PL l m k=(l.take p).filter (fun c=>decide (c<=l.getD p 0))++(l.drop (p+1)).filter (fun c=>decide (c<l.getD p 0)) /\
  PL l (l.getD p 0) (p+1)=(l.take p).filter (fun c=>decide (c<=l.getD p 0))++[l.getD p 0]++(l.drop (p+1)).filter (fun c=>decide (c<l.getD p 0)):=by
 have hp:p<l.length:=h.1.1;have hg:=getD_at hp;constructor
 ·rw[Du (afB h)];unfold PL;rw[List.drop_eq_getElem_cons hp,List.filter_cons,<-hg];simp
 ·unfold PL;rw[List.take_succ_eq_append_getElem hp,List.filter_append,<-hg];simp
theorem GN (x:List Int)(c:Int):(x.filter (fun y=>decide (y<=c))).length=rM x c:=by unfold rM;rw[List.countP_eq_length_filter]
theorem I4 (l:List Int):PL l 128 0=basics l:=by unfold PL basics;simp
theorem aat {l:List Int}{m:Int}{k:Nat}(h:∀ q,¬Ge l m k q):PL l m k=l:=by
 rw[FO,zT l 0 _ (fun _=>true)]
 ·simp
 ·intro q c hq;rw[bf];exact (JA l m k q (List.getElem?_eq_some_iff.1 hq).1).2 (h q)
theorem aar {l:List Int}{m:Int}{k:Nat}(h:(PL l m k).length<l.length):∃ q,Ge l m k q:=by
 apply Classical.byContradiction;intro hn;rw[aat (fun q hq=>hn ⟨q,hq⟩)] at h;omega
theorem KP (l:List Int)(P:Nat->Bool):∀ (x:List Int) (o:Nat),(uy x o P).length<=x.length
 | [],_=>by simp[uy]
 | c::r,o=>by have:=KP l P r (o+1);unfold uy;split<;>simp<;>omega
theorem FP (l:List Int)(m:Int)(k:Nat):(PL l m k).length<=l.length:=by rw[FO];exact KP l _ _ _
theorem Jj (P:Nat->Bool):∀ (x:List Int) (o q:Nat),q<x.length->P (o+q)=false->(uy x o P).length<x.length
 | [],_,_,h,_=>by simp at h
 | c::r,o,0,_,hp=>by
  have:=KP [] P r (o+1);simp only[jC] at hp;unfold uy;rw[hp];simp;omega
 | c::r,o,q+1,h,hp=>by
  have:=Jj P r (o+1) q (by simpa using h) (by rwa [show o+1+q=o+(q+1) by omega]);unfold uy;split<;>simp<;>omega
theorem aas {l:List Int}{m:Int}{k:Nat}(h:(PL l m k).length=l.length):∀ q,¬Ge l m k q:=by
 intro q hq;rw[FO] at h;have:=Jj (ng l m k) l 0 q hq.1 (by
  rw[bf];cases hb:ng l m k q with
  | false=>rfl
  | true=>exact absurd hq ((JA l m k q hq.1).1 hb))
 omega
def ins (out:List Int)(i:Nat)(c:Int):List Int:=out.take i++[c]++out.drop i
def dec:Nat->List UInt8->Int->Int->Int->Bool->List Int->List Int×Int
 | 0,_,_,_,_,_,_=>([],0)
 | f+1,s,n,i,b,first,out=>
  if s=[] then (out,0) else match rd s 0 0 1 b with
  | none=>([],12)
  | some (v,r)=>
   if 2147483647<v\/1114111<n+(v+i)/(out.length+1) then ([],8)
   else if scalar (n+(v+i)/(out.length+1)) then
    dec f r (n+(v+i)/(out.length+1)) ((v+i)%(out.length+1)+1) (adapt v (out.length+1) first) false (ins out ((v+i)%(out.length+1)).toNat (n+(v+i)/(out.length+1)))
   else ([],12)
def u_ (s:List UInt8):Nat->Nat
 | 0=>0
 | j+1=>if s[j]?=some 45 then j else u_ s j
def kN (s:List UInt8):Nat:=u_ s s.length
def nums (s:List UInt8):List Int:=s.map (fun b=>(b.toNat:Int))
def ascii (s:List UInt8):Bool:=s.all (fun b=>decide (b.toNat<128))
def oL (s:List UInt8):List Int×Int:=
 if 2048<s.length then ([],7)
 else if 0<kN s then (if ascii (s.take (kN s)) then dec (s.length+1) (s.drop (kN s+1)) 128 0 72 true (nums (s.take (kN s))) else ([],12))
 else dec (s.length+1) s 128 0 72 true []
theorem IV:∀ (f:Nat) (s:List UInt8) (n i b:Int) (first:Bool) (out:List Int),s.length<f->∀ g,s.length<g->dec g s n i b first out=dec f s n i b first out
 | 0,_,_,_,_,_,_,h,_,_=>by omega
 | f+1,_,_,_,_,_,_,_,0,hg=>by omega
 | f+1,s,n,i,b,first,out,h,g+1,hg=>by
  unfold dec;by_cases hs:s=[]
  ·rw[if_pos hs,if_pos hs]
  ·rw[if_neg hs,if_neg hs];cases hr:rd s 0 0 1 b with
   | none=>rfl
   | some x=>
    obtain⟨v,r⟩:=x;have:=(Js s 0 0 1 b v r (by omega) (by omega) hr).2.2.1;simp only;split
    ·rfl
    ·split
     ·rw[IV f r _ _ _ _ _ (by omega) g (by omega)]
     ·rfl
theorem EZ (s:List UInt8)(i:Nat)(hi:s[i]?=some 45):∀ j,i<j->i<=u_ s j
 | 0,h=>by omega
 | j+1,h=>by
  unfold u_;by_cases hj:s[j]?=some 45
  ·rw[if_pos hj];omega
  ·rw[if_neg hj];refine EZ s i hi j ?_;by_cases e:i=j
   ·subst e;exact absurd hi hj
   ·omega
theorem wV (s:List UInt8):∀ j,u_ s j=0\/(s[u_ s j]?=some 45/\u_ s j<j)
 | 0=>.inl rfl
 | j+1=>by
  unfold u_;by_cases hj:s[j]?=some 45
  ·rw[if_pos hj];exact .inr ⟨hj,by omega⟩
  ·rw[if_neg hj];rcases wV s j with h | ⟨h1,h2⟩
   ·exact .inl h
   ·exact .inr ⟨h1,by omega⟩
theorem WS {s:List UInt8}(h:(45:UInt8)∉s):kN s=0:=by
 rcases wV s s.length with h1 | ⟨h1,_⟩
 ·exact h1
 ·exact absurd (List.mem_of_getElem? h1) h
theorem Tv (x y:List UInt8)(h:(45:UInt8)∉y):kN (x++[45]++y)=x.length:=by
 have hx:(x++[45]++y)[x.length]?=some 45:=by simp
 have h1:=EZ _ _ hx (x++[45]++y).length (by simp);have h2:kN (x++[45]++y)<=x.length:=by
  rcases wV (x++[45]++y) (x++[45]++y).length with h3 | ⟨h3,_⟩
  ·unfold kN;omega
  ·unfold kN;apply Nat.le_of_not_lt;intro hlt;have hle:(x++[45]).length<=u_ (x++[45]++y) (x++[45]++y).length:=by
    have:(x++[(45:UInt8)]).length=x.length+1:=by simp
    omega
   rw[List.getElem?_append_right hle] at h3;exact h (List.mem_of_getElem? h3)
 unfold kN at h2 ⊢;omega
theorem ahO (d:Int)(h0:0<=d)(h1:d<=35):pq d≠45:=by
 intro h;have:=U8 d h0 h1;rw[h] at this;revert this;decide
theorem ahN (v b:Int)(h:0<=v):∀ d∈Bf v b,0<=d/\d<=35:=U6 _ _ _ _ h
theorem yJ {c:Int}(h:scalar c=true):0<=c/\c<=1114111:=by unfold scalar at h;simp at h;omega
def Inv (l:List Int)(m:Int)(k:Nat)(st:St):Prop:=st.n=m/\st.i=rM (l.take k) m/\st.h=(PL l m k).length
theorem inv_start (l:List Int):Inv l 128 0 (st0 l):=⟨rfl,by simp[st0,rM],by rw[I4];rfl⟩
theorem TL (l:List Int)(c:Int){k p:Nat}(h:k<=p):rM (l.take k) c<=rM (l.take p) c:=by
 unfold rM;have e:l.take k=(l.take p).take k:=by rw[List.take_take,Nat.min_eq_left h]
 rw[e];exact List.Sublist.countP_le (List.take_sublist _ _)
theorem ahS (l:List Int)(m:Int)(k:Nat):rM (l.take k) m<=(PL l m k).length:=by
 unfold PL;rw[List.length_append,GN];omega
theorem DX {l:List Int}{m:Int}{k p:Nat}{st:St}(h:tN l m k p)(hi:Inv l m k st):Inv l (l.getD p 0) (p+1) (emit l st p):=by
 have hp:p<l.length:=h.1.1;refine⟨rfl,?_,?_⟩
 ·show ((rM (l.take p) (l.getD p 0):Nat):Int)+1=_;rw[List.take_succ_eq_append_getElem hp,<-getD_at hp];unfold rM;rw[jO];simp
 ·show st.h+1=_;obtain⟨h1,h2⟩:=Dt h;rw[hi.2.2,h1,h2];simp;omega
theorem Jz {l:List Int}{m:Int}{k p:Nat}{st:St}(h:tN l m k p)(hi:Inv l m k st):0<=num l st p/\num l st p+st.i=(l.getD p 0-m)*(st.h+1)+rM (l.take p) (l.getD p 0)/\rM (l.take p) (l.getD p 0)<=st.h:=by
 obtain⟨i1,i2,i3⟩:=hi;have hJ:rM (l.take p) (l.getD p 0)<=st.h:=by
  rw[i3,(Dt h).1,List.length_append,GN];omega
 have hI:rM (l.take k) m<=st.h:=by rw[i3];exact ahS l m k
 refine⟨?_,?_,hJ⟩
 ·unfold num;rw[i1,i2];rcases h.1.2 with h1 | ⟨h1,h2⟩
  ·have:1*((st.h:Int)+1)<=(l.getD p 0-m)*(st.h+1):=fJ (by omega) (by omega);omega
  ·rw[h1];have:=TL l m h2;simp;omega
 ·unfold num;rw[i1];omega
theorem YJ {l:List Int}{m:Int}{k p:Nat}{st:St}(h:tN l m k p)(hi:Inv l m k st)(hm:0<=m)(hl:l.length<=256)(hs:l.getD p 0<=1114111):num l st p<=286331153:=by
 obtain⟨b1,b2,b3⟩:=Jz h hi;have hh:st.h<l.length:=by
  have h1:=(Dt h).2;have h2:=FP l (l.getD p 0) (p+1);have h3:=(DX h hi).2.2;have h4:(emit l st p).h=st.h+1:=rfl;omega
 have hi0:0<=st.i:=by rw[hi.2.1];omega
 have hc:0<=l.getD p 0-m:=by have:=h.1.2;omega
 have:(l.getD p 0-m)*((st.h:Int)+1)<=1114111*((st.h:Int)+1):=fJ (by omega) (by omega);omega
theorem QF (l:List Int)(hs:l.all scalar=true)(hl:l.length<=256):∀ (a:Nat) (m:Int) (k:Nat) (st:St),left l m k<=a->0<=m->Inv l m k st ->
  ∀ f,((tl l m k st).map pq).length<f->dec f ((tl l m k st).map pq) st.n st.i st.b st.first (PL l m k)=(l,0)
 | a,m,k,st,ha,hm,hi,f,hf=>by
  cases hn:next l m k with
  | none=>
   have hno:=yP hn;rw[Gp hno] at hf ⊢;cases f with
   | zero=>simp at hf
   | succ f=>
    unfold dec;rw[List.map_nil,if_pos rfl,aat hno]
  | some p=>
   have hx:=uV hn;cases a with
   | zero=>exact absurd hx.1 (BQ (by omega) p)
   | succ a=>
    have hlt:=left_step hx;have hp:p<l.length:=hx.1.1;have hsc:scalar (l.getD p 0)=true:=by
     rw[getD_at hp];exact b_.1 hs _ (List.getElem_mem hp)
    have hsb:=yJ hsc;obtain⟨b1,b2,b3⟩:=Jz hx hi;have b4:=YJ hx hi hm hl hsb.2;rw[Gl hx,List.map_append] at hf ⊢;have hne:Bf (num l st p) st.b≠[]:=afX _ _ _ _;have hlen:0<((Bf (num l st p) st.b).map pq).length:=by
     rw[List.length_map];exact List.length_pos_iff.2 hne
    cases f with
    | zero=>simp at hf
    | succ f=>
     unfold dec;rw[if_neg (by intro he;rw[List.append_eq_nil_iff] at he;rw[he.1] at hlen;simp at hlen),aeV _ _ _ b1 (by omega)];simp only;have hPl:(PL l m k).length=st.h:=hi.2.2.symm;have hq:(num l st p+st.i)/(((PL l m k).length:Int)+1)=l.getD p 0-m:=by
      rw[b2,hPl,Int.add_comm,Int.add_mul_ediv_right _ _ (by omega),Int.ediv_eq_zero_of_lt (by omega) (by omega)];omega
     have hr:(num l st p+st.i)%(((PL l m k).length:Int)+1)=rM (l.take p) (l.getD p 0):=by
      rw[b2,hPl,Int.add_comm,Int.add_mul_emod_self_right,Int.emod_eq_of_lt (by omega) (by omega)]
     have hn':st.n+(l.getD p 0-m)=l.getD p 0:=by rw[hi.1];omega
     rw[hq,hr,hn',if_neg (by omega),if_pos hsc];have hins:ins (PL l m k) ((rM (l.take p) (l.getD p 0):Nat):Int).toNat (l.getD p 0)=PL l (l.getD p 0) (p+1):=by
      obtain⟨q1,q2⟩:=Dt hx;rw[q1,q2];unfold ins;rw[Int.toNat_natCast,<-GN,List.take_left,List.drop_left]
     rw[hins,hPl];have hcm:0<=l.getD p 0:=hsb.1;exact QF l hs hl a (l.getD p 0) (p+1) (emit l st p) (by omega) hcm (DX hx hi) f (by rw[List.length_append] at hf;omega)
 termination_by a=>a
theorem VM (l:List Int):∀ (a:Nat) (m:Int) (k:Nat) (st:St),left l m k<=a->Inv l m k st->∀ d∈tl l m k st,0<=d/\d<=35
 | a,m,k,st,ha,hi,d,hd=>by
  cases hn:next l m k with
  | none=>rw[Gp (yP hn)] at hd;cases hd
  | some p=>
   have hx:=uV hn;cases a with
   | zero=>exact absurd hx.1 (BQ (by omega) p)
   | succ a=>
    have hlt:=left_step hx;rw[Gl hx] at hd;rcases List.mem_append.1 hd with h | h
    ·exact ahN _ _ (Jz hx hi).1 d h
    ·exact VM l a _ _ _ (by omega) (DX hx hi) d h
 termination_by a=>a
theorem Oz (l:List Int)(hs:∀ c∈l,c<=1114111)(hl:l.length<=256):∀ (a:Nat) (m:Int) (k:Nat) (st:St),left l m k<=a->0<=m->Inv l m k st->(tl l m k st).length<=10*a
 | a,m,k,st,ha,hm,hi=>by
  cases hn:next l m k with
  | none=>rw[Gp (yP hn)];simp
  | some p=>
   have hx:=uV hn;cases a with
   | zero=>exact absurd hx.1 (BQ (by omega) p)
   | succ a=>
    have hlt:=left_step hx;have hp:p<l.length:=hx.1.1;have h1:l.getD p 0<=1114111:=by rw[getD_at hp];exact hs _ (List.getElem_mem hp)
    rw[Gl hx,List.length_append];have h2:=Oz l hs hl a _ _ _ (by omega) (by have:=hx.1.2;omega) (DX hx hi);have h3:=YJ hx hi hm hl h1;have h4:=QC 9 (num l st p) 0 st.b (Jz hx hi).1 (Int.lt_of_le_of_lt h3 (by decide));have h5:(Bf (num l st p) st.b).length<=10:=h4;omega
 termination_by a=>a
theorem abz {ds:List Int}(h:∀ d∈ds,0<=d/\d<=35):(45:UInt8)∉ds.map pq:=by
 intro hm;obtain⟨d,hd,he⟩:=eG.1 hm;exact ahO d (h d hd).1 (h d hd).2 he
theorem J9 (l:List Int):(basics l).length<=l.length:=List.length_filter_le _ _
theorem afR (l:List Int)(hs:∀ c∈l,c<=1114111)(hl:l.length<=256):(enc l).length<=11*l.length+1:=by
 have h1:=Oz l hs hl l.length 128 0 (st0 l) (left_le _ _ _) (by omega) (inv_start l);have h2:=J9 l;unfold enc front;rw[List.length_append,List.length_append,List.length_map,List.length_map];split<;>simp<;>omega
theorem wR (c:Int)(h0:0<=c)(h1:c<256):((byte c).toNat:Int)=c:=by
 unfold byte;obtain⟨n,rfl⟩:=fZ h0;simp;omega
theorem WE (l:List Int)(hs:l.all scalar=true):nums ((basics l).map byte)=basics l/\ascii ((basics l).map byte)=true:=by
 have hb:∀ c∈basics l,0<=c/\c<128:=by
  intro c hc;unfold basics at hc;obtain⟨h1,h2⟩:=List.mem_filter.1 hc;have:=yJ (b_.1 hs c h1);simp at h2;omega
 constructor
 ·unfold nums;rw[List.map_map];conv=>rhs;rw[<-List.map_id (basics l)]
  apply List.map_congr_left;intro c hc;have:=hb c hc;exact wR c this.1 (by omega)
 ·unfold ascii;rw[b_];intro b hbm;obtain⟨c,hc,rfl⟩:=eG.1 hbm;have:=hb c hc;have e:=wR c this.1 (by omega);simp;omega
theorem Nl (l:List Int)(hs:l.all scalar=true)(hl:l.length<=256)(hlen:(enc l).length<=2048):oL (enc l)=(l,0):=by
 have hbd:=VM l l.length 128 0 (st0 l) (left_le _ _ _) (inv_start l);have hnd:=abz hbd;have hbk:=QF l hs hl l.length 128 0 (st0 l) (left_le _ _ _) (by omega) (inv_start l);rw[I4] at hbk;obtain⟨f1,f2⟩:=WE l hs;unfold oL;rw[if_neg (by omega)];by_cases h0:(basics l).length=0
 ·have hb:basics l=[]:=List.eq_nil_of_length_eq_zero h0;have he:enc l=(tl l 128 0 (st0 l)).map pq:=by unfold enc front;rw[hb];simp
  rw[he,WS hnd,if_neg (by omega)];have:=hbk (((tl l 128 0 (st0 l)).map pq).length+1) (by omega);rw[hb] at this;exact this
 ·have he:enc l=(basics l).map byte++[45]++(tl l 128 0 (st0 l)).map pq:=by unfold enc front;rw[if_neg h0]
  have hlast:kN (enc l)=((basics l).map byte).length:=by rw[he];exact Tv _ _ hnd
  have ht:(enc l).take ((basics l).map byte).length=(basics l).map byte:=by rw[he,List.append_assoc,List.take_left]
  have hd:(enc l).drop (((basics l).map byte).length+1)=(tl l 128 0 (st0 l)).map pq:=by
   rw[he,show ((basics l).map byte).length+1=((basics l).map byte++[45]).length by simp,List.drop_left]
  rw[hlast,if_pos (by simp;omega),ht,if_pos f2,hd,f1];exact hbk _ (by rw[he];simp;omega)
theorem abT {s:List UInt8}(h:0<kN s):s=s.take (kN s)++[45]++s.drop (kN s+1)/\kN s<s.length:=by
 rcases wV s s.length with h1 | ⟨h1,h2⟩
 ·unfold kN at h;omega
 ·have hlt:kN s<s.length:=h2;refine⟨?_,hlt⟩;have e:s[kN s]=45:=by
   have:s[kN s]?=some 45:=h1;rw[List.getElem?_eq_getElem hlt] at this;injection this
  conv=>lhs;rw[<-List.take_append_drop (kN s) s,List.drop_eq_getElem_cons hlt,e]
  simp
end Go.Proofs.YtkachcflifhgiaaGreatDoor.Pn
namespace Go.Proofs.YtkachcflifhgiaaGreatDoor
namespace Al
def lb (b:UInt8):UInt8:=if 65<=b.toNat/\b.toNat<=90 then b+32 else b
def low (L:List UInt8):List UInt8:=L.map lb
def wW (L:List UInt8):Bool:=decide (4<=L.length)&&decide (low (L.take 4)=[120,110,45,45])
def ascii (l:List Int):Bool:=l.all (fun c=>decide (0<=c/\c<=127))
theorem ag3 {b:UInt8}(h:65<=b.toNat/\b.toNat<=90):((lb b).toNat:Int)=(b.toNat:Int)+32:=by
 have H:∀ n:Fin 256,65<=n.1/\n.1<=90->((lb (UInt8.ofNat n.1)).toNat:Int)=(n.1:Int)+32:=by decide +kernel
 have:=H ⟨b.toNat,b.toNat_lt⟩ h;simpa using this
theorem UI {b:UInt8}(h:¬(65<=b.toNat/\b.toNat<=90)):lb b=b:=by unfold lb;rw[if_neg h]
theorem Dj (L:List UInt8):(low L).length=L.length:=by simp[low]
end Al
def Al.lab (l:List Int):List UInt8×Int:=
 if l.length=0 then ([],10) else if Al.ascii l then (if 63<l.length then ([],11) else (l.map Pn.byte,0))
 else if (Pn.nV l).2=0 then (if 63<4+(Pn.nV l).1.length then ([],11) else ([120,110,45,45]++(Pn.nV l).1,0)) else ([],(Pn.nV l).2)
theorem Al.UK {l:List Int}(h:l.length=0):Al.lab l=([],10):=by unfold Al.lab;rw[if_pos h]
theorem Al.UM {l:List Int}(h:¬l.length=0)(ha:Al.ascii l=true):Al.lab l=if 63<l.length then ([],11) else (l.map Pn.byte,0):=by unfold Al.lab;rw[if_neg h,if_pos ha]
theorem Al.UL {l:List Int}(h:¬l.length=0)(ha:Al.ascii l=false)(he:¬(Pn.nV l).2=0):Al.lab l=([],(Pn.nV l).2):=by unfold Al.lab;rw[if_neg h,ha,if_neg (by simp),if_neg he]
theorem Al.II {l:List Int}(h:¬l.length=0)(ha:Al.ascii l=false)(he:(Pn.nV l).2=0):Al.lab l=if 63<4+(Pn.nV l).1.length then ([],11) else ([120,110,45,45]++(Pn.nV l).1,0):=by unfold Al.lab;rw[if_neg h,ha,if_neg (by simp),if_pos he]
theorem Xl {l:List Int}(he:(Pn.nV l).2=0):(Pn.nV l).1.length<=10000:=by
 unfold Pn.nV at he ⊢;by_cases h:256<l.length
 ·rw[if_pos h] at he;simp at he
 ·rw[if_neg h] at he ⊢;by_cases ha:l.all Pn.scalar=true
  ·rw[if_pos ha];have:=Pn.afR l (fun c hc=>(Pn.yJ (b_.1 ha c hc)).2) (by omega);show (Pn.enc l).length<=_;omega
  ·rw[if_neg ha] at he;simp at he
theorem afU {l:List Int}(he:(Pn.nV l).2=0)(h0:¬l.length=0):(Pn.nV l).1≠[]:=by
 unfold Pn.nV at he ⊢;by_cases h:256<l.length
 ·rw[if_pos h] at he;simp at he
 ·rw[if_neg h] at he ⊢;by_cases ha:l.all Pn.scalar=true
  ·rw[if_pos ha];intro e;have e':Pn.enc l=[]:=e;have:=Pn.Nl l ha (by omega) (by rw[e'];simp);rw[e'] at this;have h2:Pn.oL []=([],0):=by decide +kernel
   rw[h2] at this;injection this with this
   rw[<-this] at h0;simp at h0
  ·rw[if_neg ha] at he;simp at he
def Al.pts (L:List UInt8):List Int×Int:=
 if L.length=0 then ([],10) else if Pn.ascii L then (if 63<L.length then ([],11) else if Al.wW L then
  (if (Pn.oL (Al.low (L.drop 4))).2=0 then (if Al.ascii (Pn.oL (Al.low (L.drop 4))).1 then ([],12) else if (Al.lab (Pn.oL (Al.low (L.drop 4))).1).2=0/\(Al.lab (Pn.oL (Al.low (L.drop 4))).1).1=Al.low L then ((Pn.oL (Al.low (L.drop 4))).1,0) else ([],12))
   else ([],(Pn.oL (Al.low (L.drop 4))).2)) else (Pn.nums L,0)) else ([],12)
namespace Pn
theorem afu (out:List Int)(a:Nat)(c:Int):(ins out a c).length=out.length+1:=by unfold ins;simp;omega
theorem LG:∀ (f:Nat) (s:List UInt8) (n i b:Int) (first:Bool) (out:List Int),s.length<f ->
  ((dec f s n i b first out).2=0/\(dec f s n i b first out).1.length<=out.length+s.length)\/((dec f s n i b first out).1=[]/\((dec f s n i b first out).2=12\/(dec f s n i b first out).2=8))
 | 0,_,_,_,_,_,_,h=>by omega
 | f+1,s,n,i,b,first,out,h=>by
  unfold dec;by_cases hs:s=[]
  ·rw[if_pos hs];exact .inl ⟨rfl,by simp⟩
  ·rw[if_neg hs];cases hr:rd s 0 0 1 b with
   | none=>exact .inr ⟨rfl,.inl rfl⟩
   | some z=>
    obtain⟨v,r⟩:=z;have hl:=(Js s 0 0 1 b v r (by omega) (by omega) hr).2.2.1;simp only;split
    ·exact .inr ⟨rfl,.inr rfl⟩
    ·split
     ·rcases LG f r (n+(v+i)/(out.length+1)) ((v+i)%(out.length+1)+1) (adapt v (out.length+1) first) false (ins out ((v+i)%(out.length+1)).toNat (n+(v+i)/(out.length+1))) (by omega) with ⟨h1,h2⟩ | h1
      ·left;refine⟨h1,?_⟩;rw[afu] at h2;omega
      ·exact .inr h1
     ·exact .inr ⟨rfl,.inl rfl⟩
theorem QH (s:List UInt8)(hs:s.length<=2048):((oL s).2=0/\(oL s).1.length<=4096)\/((oL s).1=[]/\((oL s).2=12\/(oL s).2=8)):=by
 unfold oL;rw[if_neg (by omega)];by_cases h0:0<kN s
 ·rw[if_pos h0];by_cases ha:ascii (s.take (kN s))=true
  ·rw[if_pos ha];rcases LG (s.length+1) (s.drop (kN s+1)) 128 0 72 true (nums (s.take (kN s))) (by rw[List.length_drop];omega) with ⟨h1,h2⟩ | h1
   ·left;refine⟨h1,?_⟩;have:(nums (s.take (kN s))).length<=s.length:=by unfold nums;rw[List.length_map,List.length_take];omega
    rw[List.length_drop] at h2;omega
   ·exact .inr h1
  ·rw[if_neg ha];exact .inr ⟨rfl,.inl rfl⟩
 ·rw[if_neg h0];rcases LG (s.length+1) s 128 0 72 true [] (by omega) with ⟨h1,h2⟩ | h1
  ·left;refine⟨h1,?_⟩;simp at h2;omega
  ·exact .inr h1
end Pn
end Go.Proofs.YtkachcflifhgiaaGreatDoor
namespace Go.Proofs.YtkachcflifhgiaaGreatDoor.Pn
structure EI (l:List Int)(m:Int)(k:Nat)(st:St)(D:Int)(pre:List Int):Prop where
 h:st.h=(PL l m k).length
 d:D+st.i=(m-st.n)*((st.h:Int)+1)+rM (l.take k) m
 n0:0<=st.n
 nm:st.n<=m
 i0:0<=st.i
 d0:0<=D
 b0:0<=st.b
 b1:st.b<=720
 t:pre++tl l m k st=tl l 128 0 (st0 l)
theorem EI.start (l:List Int):EI l 128 0 (st0 l) 0 []:=
 ⟨by rw[I4];rfl,by simp[st0,rM],by simp[st0],by simp[st0],by simp[st0],by omega,by simp[st0],by simp[st0],rfl⟩
theorem yz {l:List Int}{m:Int}{k q:Nat}{c:Int}(hq:l[q]?=some c):Ge l m k q↔(m<c\/(c=m/\k<=q)):=by
 have h1:=(List.getElem?_eq_some_iff.1 hq).1;have h2:l.getD q 0=c:=by rw[List.getD_eq_getElem?_getD,hq];rfl
 unfold Ge;rw[h2];exact⟨fun h=>h.2,fun h=>⟨h1,h⟩⟩
theorem EI.min {l:List Int}{n m:Int}{st:St}{D:Int}{pre:List Int}(e:EI l n 0 st D pre)(hm:∀ (q:Nat) (c:Int),l[q]?=some c->n<=c->m<=c)(hnm:n<=m) :
  EI l m 0 st (D+(m-n)*((st.h:Int)+1)) pre:=by
 have hg:∀ q,Ge l n 0 q↔Ge l m 0 q:=by
  intro q;by_cases hq:q<l.length
  ·have h1:=hm q l[q] (List.getElem?_eq_getElem hq);rw[yz (List.getElem?_eq_getElem hq),yz (List.getElem?_eq_getElem hq)];omega
  ·exact⟨fun h=>absurd h.1 hq,fun h=>absurd h.1 hq⟩
 have hp:0<=(m-n)*((st.h:Int)+1):=gV (by omega) (by omega);refine⟨by rw[e.h,Du hg],?_,e.n0,by have:=e.nm;omega,e.i0,by have:=e.d0;omega,e.b0,e.b1,by rw[<-Gn hg];exact e.t⟩;have h1:=e.d;have h2:(m-st.n)*((st.h:Int)+1)=(n-st.n)*((st.h:Int)+1)+(m-n)*((st.h:Int)+1):=by
  rw[<-Int.add_mul];congr 1;omega
 rw[h2];simp only[List.take_zero] at h1 ⊢;have e1:rM [] n=0:=rfl;have e2:rM [] m=0:=rfl;rw[e1] at h1;rw[e2];omega
theorem IX {l:List Int}{k:Nat}{c m:Int}(hk:l[k]?=some c):rM (l.take (k+1)) m=rM (l.take k) m+(if c<=m then 1 else 0):=by
 obtain⟨h1,h2⟩:=List.getElem?_eq_some_iff.1 hk;rw[List.take_succ_eq_append_getElem h1,h2];unfold rM;rw[jO,List.countP_cons,List.countP_nil];simp
theorem U0 {l:List Int}{k:Nat}{c m:Int}(hk:l[k]?=some c)(hc:c≠m)(q:Nat):Ge l m k q↔Ge l m (k+1) q:=by
 by_cases hq:q<l.length
 ·by_cases he:q=k
  ·subst he;rw[yz hk,yz hk];omega
  ·rw[yz (List.getElem?_eq_getElem hq),yz (List.getElem?_eq_getElem hq)];omega
 ·exact⟨fun h=>absurd h.1 hq,fun h=>absurd h.1 hq⟩
theorem EI.lt {l:List Int}{m:Int}{k:Nat}{st:St}{D:Int}{pre:List Int}{c:Int}(e:EI l m k st D pre)(hk:l[k]?=some c)(hc:c<m):EI l m (k+1) st (D+1) pre:=by
 have hg:=U0 hk (show c≠m by omega);refine⟨by rw[e.h,Du hg],?_,e.n0,e.nm,e.i0,by have:=e.d0;omega,e.b0,e.b1,by rw[<-Gn hg];exact e.t⟩;have:=e.d;rw[IX hk,if_pos (by omega)];push_cast;omega
theorem EI.gt {l:List Int}{m:Int}{k:Nat}{st:St}{D:Int}{pre:List Int}{c:Int}(e:EI l m k st D pre)(hk:l[k]?=some c)(hc:m<c):EI l m (k+1) st D pre:=by
 have hg:=U0 hk (show c≠m by omega);refine⟨by rw[e.h,Du hg],?_,e.n0,e.nm,e.i0,e.d0,e.b0,e.b1,by rw[<-Gn hg];exact e.t⟩;have:=e.d;rw[IX hk,if_neg (by omega)];exact this
theorem EI.eq {l:List Int}{m:Int}{k:Nat}{st:St}{D:Int}{pre:List Int}(e:EI l m k st D pre)(hk:l[k]?=some m) :
  ∃ st':St,EI l m (k+1) st' 0 (pre++Bf D st.b)/\st'.b=adapt D ((st.h:Int)+1) st.first/\st'.first=false/\st'.h=st.h+1:=by
 have hkl:=(List.getElem?_eq_some_iff.1 hk).1;have hgd:l.getD k 0=m:=by rw[List.getD_eq_getElem?_getD,hk];rfl
 have hx:tN l m k k:=by
  refine⟨(yz hk).2 (.inr ⟨rfl,Nat.le_refl _⟩),fun q hq=>?_⟩;have:=hq.2;rw[hgd];omega
 have hnum:num l st k=D:=by
  have:=e.d;unfold num;rw[hgd];omega
 have hbd:=IY D ((st.h:Int)+1) st.first;refine⟨emit l st k,⟨?_,?_,?_,?_,?_,by omega,?_,?_,?_⟩,?_,rfl,rfl⟩
 ·show st.h+1=_;obtain⟨h1,h2⟩:=Dt hx;rw[hgd] at h1 h2;rw[e.h,h1,h2];simp;omega
 ·show (0:Int)+((rM (l.take k) (l.getD k 0):Nat)+1)=(m-l.getD k 0)*_+_;rw[hgd,IX hk,if_pos (iZ _),Int.sub_self,Int.zero_mul];push_cast;omega
 ·show 0<=l.getD k 0;rw[hgd];have:=e.n0;have:=e.nm;omega
 ·show l.getD k 0<=m;rw[hgd];exact iZ _
 ·show 0<=((rM (l.take k) (l.getD k 0):Nat):Int)+1;omega
 ·show 0<=adapt (num l st k) _ _;rw[hnum];exact hbd.1
 ·show adapt (num l st k) _ _<=720;rw[hnum];exact hbd.2
 ·have h1:=Gl hx st;rw[hnum,hgd] at h1;rw[List.append_assoc,<-h1];exact e.t
 ·show adapt (num l st k) _ _=_;rw[hnum]
theorem EI.next {l:List Int}{m:Int}{st:St}{D:Int}{pre:List Int}(e:EI l m l.length st D pre):EI l (m+1) 0 st (D+1) pre:=by
 have hg:∀ q,Ge l m l.length q↔Ge l (m+1) 0 q:=by
  intro q;by_cases hq:q<l.length
  ·rw[yz (List.getElem?_eq_getElem hq),yz (List.getElem?_eq_getElem hq)];omega
  ·exact⟨fun h=>absurd h.1 hq,fun h=>absurd h.1 hq⟩
 have hc:rM l m=st.h:=by
  have:=e.h;unfold PL at this;rw[List.take_length,List.drop_length,List.filter_nil,List.append_nil,GN] at this;omega
 refine⟨by rw[e.h,Du hg],?_,e.n0,by have:=e.nm;omega,e.i0,by have:=e.d0;omega,e.b0,e.b1,by rw[<-Gn hg];exact e.t⟩;have:=e.d;rw[List.take_length,hc] at this;have h2:(m+1-st.n)*((st.h:Int)+1)=(m-st.n)*((st.h:Int)+1)+((st.h:Int)+1):=by
  rw[show m+1-st.n=(m-st.n)+1 by omega,Int.add_mul,Int.one_mul]
 rw[h2];have:rM (l.take 0) (m+1)=0:=rfl;omega
theorem EI.done {l:List Int}{n:Int}{st:St}{D:Int}{pre:List Int}(e:EI l n 0 st D pre)(h:l.length<=st.h):pre=tl l 128 0 (st0 l):=by
 have h1:=e.h;have h2:=FP l n 0;have h3:=aas (l:=l) (m:=n) (k:=0) (by omega);have:=e.t;rw[Gp h3,List.append_nil] at this;exact this
theorem EI.hle {l:List Int}{m:Int}{k:Nat}{st:St}{D:Int}{pre:List Int}(e:EI l m k st D pre):st.h<=l.length:=by rw[e.h];exact FP l m k
theorem ahR (x:List Int)(c:Int):rM x c<=x.length:=List.countP_le_length
theorem EI.bound {l:List Int}{m:Int}{k:Nat}{st:St}{D:Int}{pre:List Int}(e:EI l m k st D pre)(hl:l.length<=256)(hm:m<=1114112):D<=286327040:=by
 have h1:=e.hle;have h2:=ahR (l.take k) m;have h3:(l.take k).length<=256:=by rw[List.length_take];omega
 have h4:=e.d;have h5:=e.i0;have h6:=e.n0;have h7:=e.nm;have h8:(m-st.n)*((st.h:Int)+1)<=1114112*((st.h:Int)+1):=fJ (by omega) (by omega);omega
theorem EI.VQ {l:List Int}{m n:Int}{k:Nat}{st:St}{D:Int}{pre:List Int}(e:EI l n k st D pre)(hl:l.length<=256)(hm:m<=1114112)(hn:n<=m)(hn0:0<=n) :
  0<=(m-n)*((st.h:Int)+1)/\(m-n)*((st.h:Int)+1)<=286326784:=by
 have h1:=e.hle;have h8:(m-n)*((st.h:Int)+1)<=1114112*((st.h:Int)+1):=fJ (by omega) (by omega);exact⟨gV (by omega) (by omega),by omega⟩
theorem EI.some {l:List Int}{n:Int}{st:St}{D:Int}{pre:List Int}(e:EI l n 0 st D pre)(h:st.h<l.length):∃ (q:Nat) (c:Int),l[q]?=Option.some c/\n<=c:=by
 obtain⟨q,hq⟩:=aar (l:=l) (m:=n) (k:=0) (by have:=e.h;omega);have h1:=List.getElem?_eq_getElem hq.1;refine⟨q,_,h1,?_⟩;have:=(yz h1).1 hq;omega
theorem EI.Wu {l:List Int}{m:Int}{k:Nat}{st:St}{D:Int}{pre:List Int}(e:EI l m k st D pre)(hl:l.length<=256)(hs:∀ c∈l,c<=1114111):pre.length<=2560:=by
 have h1:=Oz l hs hl l.length 128 0 (st0 l) (left_le _ _ _) (by omega) (inv_start l);have h2:=congrArg List.length e.t;rw[List.length_append] at h2;omega
def mn (l:List Int)(n:Int):Nat->Int
 | 0=>1114112
 | k+1=>if n<=l.getD k 0 then Min.min (mn l n k) (l.getD k 0) else mn l n k
theorem UC {l:List Int}{n:Int}{k:Nat}{c:Int}(hk:l[k]?=Option.some c):mn l n (k+1)=if n<=c then Min.min (mn l n k) c else mn l n k:=by
 have:l.getD k 0=c:=by rw[List.getD_eq_getElem?_getD,hk];rfl
 show (if n<=l.getD k 0 then Min.min (mn l n k) (l.getD k 0) else mn l n k)=_;rw[this]
theorem adI (l:List Int)(n:Int)(hn:n<=1114112):∀ k,n<=mn l n k/\mn l n k<=1114112
 | 0=>⟨hn,iZ _⟩
 | k+1=>by
  have:=adI l n hn k;unfold mn;split<;>omega
theorem WJ (l:List Int)(n:Int):∀ (k q:Nat) (c:Int),q<k->l[q]?=Option.some c->n<=c->mn l n k<=c
 | 0,q,_,h,_,_=>by omega
 | k+1,q,c,h,hq,hc=>by
  by_cases e:q=k
  ·subst e;rw[UC hq,if_pos hc];omega
  ·have:=WJ l n k q c (by omega) hq hc;unfold mn;split<;>omega
end Go.Proofs.YtkachcflifhgiaaGreatDoor.Pn
namespace Go.Proofs.YtkachcflifhgiaaGreatDoor
theorem gz:type_of% @List.find?_cons_of_neg:=@List.find?_cons_of_neg
theorem jw:type_of% @List.find?_cons_of_pos:=@List.find?_cons_of_pos
end Go.Proofs.YtkachcflifhgiaaGreatDoor
namespace Go.Proofs.YtkachcflifhgiaaGreatDoor.Rg
structure Sn where
 f:Int
 t:Int
 v:Int
 deriving DecidableEq
def chk (lo hi:Int):Int->List Sn->Bool
 | _,[]=>true
 | last,s::r=>if s.f<=last\/s.t<s.f\/1114111<s.t\/s.f<lo\/hi<s.t then false else chk lo hi s.t r
def check (l:List Sn)(lo hi:Int):Bool:=chk lo hi (-1) l&&decide (l.length<=256)
def valid (l:List Sn):Bool:=check l 0 1114111
def Asc:Int->List Sn->Prop
 | _,[]=>True
 | last,s::r=>last<s.f/\s.f<=s.t/\s.t<=1114111/\Asc s.t r
theorem Xu (l:List Sn):∀ last,-1<=last->Asc last l->chk 0 1114111 last l=true:=by
 induction l with
 | nil=>intro _ _ _;rfl
 | cons s r ih=>
  intro last hl h;obtain⟨h1,h2,h3,h4⟩:=h;unfold chk;rw[if_neg (by omega)];exact ih _ (by omega) h4
theorem Asc.mono {l:List Sn}{a b:Int}(h:Asc a l)(hab:b<=a):Asc b l:=by
 cases l with
 | nil=>trivial
 | cons s r=>exact⟨by have:=h.1;omega,h.2⟩
theorem Asc.all {l:List Sn}:∀ {last:Int},Asc last l->∀ s∈l,last<s.f/\s.f<=s.t/\s.t<=1114111:=by
 induction l with
 | nil=>intro _ _ s hs;cases hs
 | cons a r ih=>
  intro last h s hs;obtain⟨h1,h2,h3,h4⟩:=h;rcases List.mem_cons.1 hs with rfl | hs
  ·exact⟨h1,h2,h3⟩
  ·have:=ih h4 s hs;exact⟨by omega,this.2⟩
def before (l:List Sn)(c:Int):List Sn:=l.flatMap (fun s=>if s.f<c then [⟨s.f,min s.t (c-1),s.v⟩] else [])
def place (l:List Sn)(b:Int):Nat:=(l.takeWhile (fun s=>decide (s.f<=b))).length
end Go.Proofs.YtkachcflifhgiaaGreatDoor.Rg
namespace Go.Proofs.YtkachcflifhgiaaGreatDoor.Rg
def push (l:List Sn)(s:Sn):List Sn:=
 match l.getLast? with
 | none=>[s]
 | some p=>if p.v=s.v/\p.t=s.f-1 then l.dropLast++[⟨p.f,s.t,p.v⟩] else l++[s]
def mrg (l:List Sn):List Sn:=l.foldl push []
def Ht (c:Int)(s:Sn):Bool:=decide (s.f<=c/\c<=s.t)
def val (l:List Sn)(c:Int):Option Int:=(l.find? (Ht c)).map (·.v)
theorem Ah (s:Sn)(r:List Sn)(c:Int):val (s::r) c=if s.f<=c/\c<=s.t then some s.v else val r c:=by
 unfold val;by_cases h:s.f<=c/\c<=s.t
 ·rw[if_pos h,jw (by simp[Ht,h])];rfl
 ·rw[if_neg h,gz (by simpa[Ht] using h)]
theorem EE:∀ {l:List Sn} {a:Int},Asc a l->∀ c,c<=a->val l c=none
 | [],_,_,_,_=>rfl
 | s::r,a,h,c,hc=>by
  rw[Ah,if_neg (by have:=h.1;omega)];exact EE h.2.2.2 c (by have:=h.1;have:=h.2.1;omega)
def cnt:List Sn->Int
 | []=>0
 | s::r=>(s.t-s.f+1)+cnt r
def full (l:List Sn):List Sn×Int:=if 256<(mrg l).length then ([],7) else (mrg l,0)
def err (l:List Sn)(x y:Int):Int:=if valid l then (if x<0\/y<x\/1114111<y then 3 else 0) else 1
def countP (l:List Sn):Int:=if valid l then cnt l else 0
end Go.Proofs.YtkachcflifhgiaaGreatDoor.Rg
namespace Go.Proofs.YtkachcflifhgiaaGreatDoor
theorem aU:type_of% @List.mem_cons_of_mem:=@List.mem_cons_of_mem
theorem bG:type_of% @Classical.not_not:=@Classical.not_not
theorem bU:type_of% @Int.toNat_natCast:=@Int.toNat_natCast
theorem dA:type_of% @beq_iff_eq:=@beq_iff_eq
theorem dG:type_of% @decide_eq_true_eq:=@decide_eq_true_eq
theorem dP:type_of% @List.any_eq_true:=@List.any_eq_true
theorem dX:type_of% @List.length_cons:=@List.length_cons
theorem f_:type_of% @List.pairwise_singleton:=@List.pairwise_singleton
theorem gI:type_of% @List.cons_append:=@List.cons_append
theorem gZ:type_of% @List.foldl_cons:=@List.foldl_cons
theorem iq:type_of% @Bool.and_eq_true:=@Bool.and_eq_true
theorem iF:type_of% @List.pairwise_cons:=@List.pairwise_cons
theorem iQ:type_of% @List.flatMap_cons:=@List.flatMap_cons
theorem jh:type_of% @List.nil_append:=@List.nil_append
theorem jq:type_of% @List.find?_eq_none:=@List.find?_eq_none
theorem jH:type_of% @Bool.not_eq_true:=@Bool.not_eq_true
theorem jK:type_of% @List.take_succ_cons:=@List.take_succ_cons
end Go.Proofs.YtkachcflifhgiaaGreatDoor
namespace Go.Proofs.YtkachcflifhgiaaGreatDoor.Hg
def mF (c:Int):Bool:=decide (44032<=c)&&decide (c<55204)
def pI (c:Int):Int:=if mF c=true then (c-44032)/28/21 else 0
def pJ (c:Int):Int:=if mF c=true then (c-44032)/28%21 else 0
def pK (c:Int):Int:=if mF c=true then (c-44032)%28 else 0
def kind (c:Int):Int:=
 if mF c=true then (if (c-44032)%28=0 then 4 else 5)
 else if 4352<=c/\c<4371 then 1 else if 4449<=c/\c<4470 then 2 else if 4519<c/\c<4547 then 3 else 0
def dec (c:Int):List Int:=if mF c=true then (if pK c=0 then [4352+pI c,4449+pJ c] else [4352+pI c,4449+pJ c,4519+pK c]) else []
def lv (a b:Int):Bool:=(kind a==1)&&(kind b==2)
def JD (a b:Int):Bool:=(kind a==4)&&(kind b==3)
def sG (a b:Int):Bool:=lv a b||JD a b
def comp (a b:Int):Int:=if lv a b=true then 44032+((a-4352)*21+b-4449)*28 else if JD a b=true then a+b-4519 else 0
theorem qB (c:Int):mF c=true↔44032<=c/\c<55204:=by simp[mF]
theorem xk (c:Int):mF c=false↔(c<44032\/55204<=c):=by
 rw[<-jH,qB];omega
theorem Oh (c:Int):kind c=1↔4352<=c/\c<4371:=by
 unfold kind;by_cases h:mF c=true
 ·have:=(qB c).1 h;rw[if_pos h];split<;>omega
 ·rw[if_neg h];split
  ·simp_all
  ·split
   ·omega
   ·split<;>omega
theorem kind2 (c:Int):kind c=2↔4449<=c/\c<4470:=by
 unfold kind;by_cases h:mF c=true
 ·have:=(qB c).1 h;rw[if_pos h];split<;>omega
 ·rw[if_neg h];split
  ·omega
  ·split
   ·simp_all
   ·split<;>omega
theorem adL (c:Int):kind c=3↔4519<c/\c<4547:=by
 unfold kind;by_cases h:mF c=true
 ·have:=(qB c).1 h;rw[if_pos h];split<;>omega
 ·rw[if_neg h];split
  ·omega
  ·split
   ·omega
   ·split<;>omega
theorem JH (c:Int):kind c=4↔(44032<=c/\c<55204)/\(c-44032)%28=0:=by
 unfold kind;by_cases h:mF c=true
 ·have:=(qB c).1 h;rw[if_pos h];split<;>omega
 ·have:=(xk c).1 (by simpa using h);rw[if_neg h];split
  ·omega
  ·split
   ·omega
   ·split<;>omega
theorem adK (c:Int):kind c=5↔(44032<=c/\c<55204)/\(c-44032)%28≠0:=by
 unfold kind;by_cases h:mF c=true
 ·have:=(qB c).1 h;rw[if_pos h];split<;>omega
 ·have:=(xk c).1 (by simpa using h);rw[if_neg h];split
  ·omega
  ·split
   ·omega
   ·split<;>omega
theorem PX (a b:Int):lv a b=true↔(4352<=a/\a<4371)/\4449<=b/\b<4470:=by
 simp[lv,Oh,kind2]
theorem UE (a b:Int):JD a b=true↔((44032<=a/\a<55204)/\(a-44032)%28=0)/\4519<b/\b<4547:=by
 simp[JD,adL,JH]
theorem Po (a b k:Int)(ha:0<=a)(ha':a<19)(hb:0<=b)(hb':b<21)(hk:0<=k)(hk':k<28) :
  mF (44032+(21*a+b)*28+k)=true/\pI (44032+(21*a+b)*28+k)=a/\pJ (44032+(21*a+b)*28+k)=b/\pK (44032+(21*a+b)*28+k)=k:=by
 have h:mF (44032+(21*a+b)*28+k)=true:=by rw[qB];omega
 refine⟨h,?_,?_,?_⟩
 ·unfold pI;rw[if_pos h];omega
 ·unfold pJ;rw[if_pos h];omega
 ·unfold pK;rw[if_pos h];omega
theorem Pq (c:Int)(h:mF c=true):(0<=pI c/\pI c<19)/\(0<=pJ c/\pJ c<21)/\(0<=pK c/\pK c<28)/\c=44032+(21*pI c+pJ c)*28+pK c:=by
 have hh:=(qB c).1 h;unfold pI pJ pK;simp only[if_pos h];omega
theorem af9 (a b:Int)(h:lv a b=true):mF (comp a b)=true/\kind (comp a b)=4/\kind a=1/\mF a=false/\dec (comp a b)=[a,b]/\dec a=[]:=by
 have hh:=(PX a b).1 h;have hc:comp a b=44032+(21*(a-4352)+(b-4449))*28+0:=by unfold comp;rw[if_pos h];omega
 obtain⟨s1,s2,s3,s4⟩:=Po (a-4352) (b-4449) 0 (by omega) (by omega) (by omega) (by omega) (by omega) (by omega);rw[<-hc] at s1 s2 s3 s4;have hs:mF a=false:=by rw[xk];omega
 refine⟨s1,?_,(Oh a).2 hh.1,hs,?_,?_⟩
 ·rw[JH,<-qB];refine⟨s1,?_⟩;rw[hc];omega
 ·unfold dec;rw[if_pos s1,if_pos s4,s2,s3];congr 1;omega;congr 1;omega
 ·unfold dec;rw[if_neg (by rw[hs];decide)]
theorem closed2 (a b:Int)(h:JD a b=true):lv a b=false/\mF (comp a b)=true/\kind (comp a b)=5/\kind a=4/\mF a=true/\dec (comp a b)=dec a++[b]/\(dec a).length=2:=by
 have hh:=(UE a b).1 h;have hl:lv a b=false:=by rw[<-jH,PX];omega
 have hsa:mF a=true:=(qB a).2 hh.1.1;have hb:=Pq a hsa;have hk0:pK a=0:=by unfold pK;rw[if_pos hsa];exact hh.1.2
 have hc:comp a b=44032+(21*pI a+pJ a)*28+(b-4519):=by unfold comp;rw[if_neg (by rw[hl];decide),if_pos h];omega
 obtain⟨s1,s2,s3,s4⟩:=Po (pI a) (pJ a) (b-4519) (by omega) (by omega) (by omega) (by omega) (by omega) (by omega);rw[<-hc] at s1 s2 s3 s4;refine⟨hl,s1,?_,(JH a).2 hh.1,hsa,?_,?_⟩
 ·rw[adK,<-qB];refine⟨s1,?_⟩;rw[hc];omega
 ·unfold dec;rw[if_pos s1,if_pos hsa,if_pos hk0,if_neg (by rw[s4];omega),s2,s3,s4];show _=[_,_,_];congr 3;omega
 ·unfold dec;rw[if_pos hsa,if_pos hk0];rfl
end Go.Proofs.YtkachcflifhgiaaGreatDoor.Hg
namespace Go.Proofs.YtkachcflifhgiaaGreatDoor.Gm
open Go.Proofs.YtkachcflifhgiaaGreatDoor.Rg (Sn)
structure Mp where
 f:Int
 to:List Int
 deriving DecidableEq
structure Tab where
 cat:List Sn
 cls:List Sn
 ku:List Sn
 jX:List Sn
 scr:List Sn
 jU:List Sn
 jW:List Sn
 ext:List Mp
 maps:List Mp
 dec:List Mp
 exc:List Int
 jY:List Mp
def t0:Tab:=⟨[],[],[],[],[],[],[],[],[],[],[],[]⟩
def kS (c:Int):Int:=
 if ¬(0<=c/\c<=1114111/\(c<55296\/57343<c)) then 0 else if c<=127 then 1 else if c<=2047 then 2 else if c<=65535 then 3 else 4
def Ip (c:Int):Bool:=decide (55296<=c)&&decide (c<=57343)
def yg (c:Int):Bool:=decide (4352<=c/\c<=4370)||decide (4449<=c/\c<=4469)||decide (4520<=c/\c<=4546)
def qR (c:Int):Bool:=decide (0<=c/\c<=127)||Ip c||Hg.mF c||yg c
structure NW where
 cat:Int
 jX:Int
 scr:Int
 jU:Int
def kZ (c:Int):NW:=
 if 97<=c/\c<=122 then ⟨1,0,3,1⟩ else if 65<=c/\c<=90 then ⟨1,0,3,3⟩ else if 48<=c/\c<=57 then ⟨3,4,1,1⟩ else if c=45 then ⟨5,5,1,1⟩ else if c=46 then ⟨5,6,1,1⟩
 else if c=32 then ⟨7,11,1,0⟩ else if c<32\/c=127 then ⟨8,11,1,0⟩ else if c<127 then ⟨5,8,1,0⟩ else if Hg.mF c=true then ⟨1,0,9,1⟩ else if yg c=true then ⟨1,0,9,0⟩ else ⟨0,0,0,0⟩
def val (l:List Sn)(c:Int):Int:=(Rg.val l c).getD 0
def pick (l:List Sn)(c own:Int):Int:=if kS c=0 then 0 else if qR c=true then own else val l c
def cat (T:Tab)(c:Int):Int:=pick T.cat c (kZ c).cat
def cls (T:Tab)(c:Int):Int:=val T.cls c
def ku (T:Tab)(c:Int):Int:=val T.ku c
def jX (T:Tab)(c:Int):Int:=pick T.jX c (kZ c).jX
def scr (T:Tab)(c:Int):Int:=pick T.scr c (kZ c).scr
def jU (T:Tab)(c:Int):Int:=pick T.jU c (kZ c).jU
def jW (T:Tab)(c:Int):Bool:=val T.jW c==1
def exc (T:Tab)(c:Int):Bool:=T.exc.contains c
def pX (l:List Mp)(c:Int):Option (List Int):=(l.find? (fun m=>m.f==c)).map (·.to)
def scripts (T:Tab)(c:Int):List Int:=(pX T.ext c).getD []
def maps (T:Tab)(c:Int):List Int:=if 65<=c/\c<=90 then [c+32] else (pX T.maps c).getD []
def dec (T:Tab)(c:Int):Option (List Int):=pX T.dec c
def jY (T:Tab)(c:Int):Option (List Int):=pX T.jY c
def CV (T:Tab)(k x:Int):List Int->List Int
 | []=>[x]
 | y::r=>if k<cls T y then y::CV T k x r else x::y::r
def sO (T:Tab)(r:List Int)(x:Int):List Int:=if cls T x=0 then x::r else CV T (cls T x) x r
def sort (T:Tab)(l:List Int):List Int:=(l.foldl (sO T) []).reverse
def full (T:Tab):Nat->Int->List Int
 | 0,c=>[c]
 | n+1,c=>if Hg.mF c=true then Hg.dec c else match dec T c with
  | none=>[c]
  | some l=>l.flatMap (full T n)
def oV (T:Tab)(c:Int):List Int:=full T 6 c
def n_ (T:Tab)(l:List Int):List Int:=sort T (l.flatMap (oV T))
def kN (T:Tab):Nat->Int->Int
 | 0,c=>c
 | n+1,c=>match dec T c with
  | none=>c
  | some l=>kN T n (l.getLastD c)
def yC (T:Tab):Nat->Mp->Bool
 | 0,_=>false
 | n+1,m=>match m.to with
  | [a,b]=>!exc T m.f&&decide (cls T m.f=0)&&decide (cls T a=0)&&(dec T b).isNone&&(match dec T a with
   | none=>true
   | some l=>yC T n ⟨a,l⟩)&&(decide (cls T b=0)||decide (cls T (kN T 6 a)<=cls T b))
  | _=>false
def mO (T:Tab)(m:Mp):Bool:=yC T 6 m
def zX (T:Tab)(a b:Int):Option Int:=(T.dec.reverse.find? (fun m=>mO T m&&(m.to==[a,b]))).map (·.f)
def pair (T:Tab)(a b:Int):Option Int:=if Hg.sG a b=true then some (Hg.comp a b) else zX T a b
structure CS where
 out:List Int
 st:Option Nat
def blocked (T:Tab)(s:CS)(c:Int):Bool:=match s.st with
 | none=>true
 | some p=>if p+1<s.out.length then decide (cls T (s.out.getLastD 0)=0)||decide (cls T c<=cls T (s.out.getLastD 0)) else false
def qc (T:Tab)(s:CS)(c:Int):CS:=⟨s.out++[c],if cls T c=0 then some s.out.length else s.st⟩
def sW (T:Tab)(s:CS)(c:Int):CS:=if blocked T s c=true then qc T s c else match s.st with
 | none=>qc T s c
 | some p=>match pair T (s.out.getD p 0) c with
  | none=>qc T s c
  | some x=>⟨s.out.set p x,s.st⟩
def oM (T:Tab)(l:List Int):List Int:=(l.foldl (sW T) ⟨[],none⟩).out
end Go.Proofs.YtkachcflifhgiaaGreatDoor.Gm
namespace Go.Proofs.YtkachcflifhgiaaGreatDoor.Ut
def u8 (n:Nat):UInt8:=UInt8.ofNat n
theorem rW (n:Nat)(h:n<256):(u8 n).toNat=n:=by unfold u8;simp;omega
def enc1 (c:Int):List UInt8:=
 let n:=c.toNat
 if c<=127 then [u8 n] else if c<=2047 then [u8 (192+n/64),u8 (128+n%64)]
 else if c<=65535 then [u8 (224+n/4096),u8 (128+n/64%64),u8 (128+n%64)]
 else [u8 (240+n/262144),u8 (128+n/4096%64),u8 (128+n/64%64),u8 (128+n%64)]
def nX (l:List Int):List UInt8:=l.flatMap enc1
def enc (l:List Int):List UInt8×Int:=if 4096<l.length then ([],7) else if l.any (fun c=>Gm.kS c==0) then ([],3) else (nX l,0)
def head (b:Nat):Nat×Nat:=
 if b<=127 then (1,b) else if 192<=b/\b<=223 then (2,b%32) else if 224<=b/\b<=239 then (3,b%16) else if 240<=b/\b<=247 then (4,b%8) else (0,0)
def cont:Nat->List UInt8->Option Nat
 | c,[]=>some c
 | c,b::r=>if b.toNat<128\/191<b.toNat then none else cont (c*64+b.toNat%64) r
def first:List UInt8->Nat×Nat
 | []=>(0,0)
 | b::r=>
  if (head b.toNat).1=0\/r.length+1<(head b.toNat).1 then (0,0) else match cont (head b.toNat).2 (r.take ((head b.toNat).1-1)) with
   | none=>(0,0)
   | some c=>if Gm.kS (c:Int)=((head b.toNat).1:Nat) then (c,(head b.toNat).1) else (0,0)
def scan:Nat->List UInt8->List Int×Nat
 | 0,_=>([],0)
 | f+1,L=>if L=[]\/(first L).2=0 then ([],0) else (((first L).1:Int)::(scan f (L.drop (first L).2)).1,(first L).2+(scan f (L.drop (first L).2)).2)
def oH (L:List UInt8):List Int×Nat:=scan L.length L
def dec (L:List UInt8):List Int×Int×Int:=if 4096<L.length then ([],0,7) else if (oH L).2<L.length then ([],((oH L).2:Int),9) else ((oH L).1,0,0)
theorem UW (b:Nat):(head b).1<=4:=by (unfold head;split;· simp);(split;· simp);(split;· simp);split<;>simp
theorem JU (b:UInt8)(r:List UInt8):first (b::r)=if (head b.toNat).1=0\/r.length+1<(head b.toNat).1 then (0,0) else match cont (head b.toNat).2 (r.take ((head b.toNat).1-1)) with
  | none=>(0,0)
  | some c=>if Gm.kS (c:Int)=((head b.toNat).1:Nat) then (c,(head b.toNat).1) else (0,0):=rfl
theorem Qz (L:List UInt8):(first L).2<=L.length/\(first L).2<=4:=by
 cases L with
 | nil=>simp[first]
 | cons b r=>
  rw[JU];have:=UW b.toNat;generalize head b.toNat=hd at *;obtain⟨n,c0⟩:=hd;simp only at *;by_cases h:n=0\/r.length+1<n
  ·rw[if_pos h];simp
  ·rw[if_neg h];cases cont c0 (r.take (n-1)) with
   | none=>simp
   | some c=>
    simp only;by_cases h2:Gm.kS (c:Int)=(n:Int)
    ·rw[if_pos h2];simp only[dX];omega
    ·rw[if_neg h2];simp
theorem Uj:∀ (f:Nat) (L:List UInt8),(scan f L).2<=L.length/\(scan f L).1.length<=(scan f L).2
 | 0,L=>by simp[scan]
 | f+1,L=>by
  unfold scan;split
  ·simp
  ·rename_i h
   have h1:=(Qz L).1;have h2:=Uj f (L.drop (first L).2);simp only[List.length_drop,not_or,dX] at *;omega
theorem MB:∀ (f:Nat) (L:List UInt8),L.length<=f->∀ g,L.length<=g->scan g L=scan f L
 | 0,L,h,g,_=>by
  have:L=[]:=List.eq_nil_of_length_eq_zero (by omega);subst this;cases g<;>simp[scan]
 | f+1,L,h,g,hg=>by
  cases g with
  | zero=>
   have:L=[]:=List.eq_nil_of_length_eq_zero (by omega);subst this;simp[scan]
  | succ g=>
   unfold scan;split
   ·rfl
   ·rename_i hn
    simp only[not_or] at hn;rw[MB f (L.drop (first L).2) (by simp;omega) g (by simp;omega)]
theorem Ym:oH []=([],0):=rfl
theorem VY {L:List UInt8}(h:(first L).2=0):oH L=([],0):=by
 unfold oH;cases L with
 | nil=>rfl
 | cons b r=>simp only[dX];unfold scan;rw[if_pos (.inr h)]
theorem Jn {L:List UInt8}(h:¬(first L).2=0):oH L=(((first L).1:Int)::(oH (L.drop (first L).2)).1,(first L).2+(oH (L.drop (first L).2)).2):=by
 unfold oH;cases L with
 | nil=>simp[first] at h
 | cons b r=>
  simp only[dX];conv=>lhs;unfold scan
  rw[if_neg (by simp[h])];have:=MB ((b::r).drop (first (b::r)).2).length ((b::r).drop (first (b::r)).2) (Nat.le_refl _) r.length (by simp;omega);rw[this]
theorem wO {c:Int}(h:¬Gm.kS c=0):0<=c/\c<=1114111/\(c<55296\/57343<c):=by
 unfold Gm.kS at h;split at h
 ·exact absurd rfl h
 ·rename_i h1;exact bG.1 h1
theorem Ov {c:Int}(h1:0<=c/\c<=1114111/\(c<55296\/57343<c)):Gm.kS c=if c<=127 then 1 else if c<=2047 then 2 else if c<=65535 then 3 else 4:=by
 unfold Gm.kS;rw[if_neg (fun h=>h h1)]
theorem acN {c:Int}(h:¬Gm.kS c=0):((enc1 c).length:Int)=Gm.kS c:=by
 rw[Ov (wO h)];unfold enc1;simp only;by_cases a1:c<=127
 ·rw[if_pos a1,if_pos a1];rfl
 ·rw[if_neg a1,if_neg a1];by_cases a2:c<=2047
  ·rw[if_pos a2,if_pos a2];rfl
  ·rw[if_neg a2,if_neg a2];by_cases a3:c<=65535
   ·rw[if_pos a3,if_pos a3];rfl
   ·rw[if_neg a3,if_neg a3];rfl
theorem afV (c:Int):enc1 c≠[]:=by
 unfold enc1;simp only;split
 ·simp
 ·split
  ·simp
  ·split<;>simp
theorem U4 (c:Int):(enc1 c).length<=4:=by
 unfold enc1;simp only;split
 ·simp
 ·split
  ·simp
  ·split<;>simp
theorem IU (l:List Int):(nX l).length<=4*l.length:=by
 induction l with
 | nil=>simp[nX]
 | cons c r ih=>have:=U4 c;simp only[nX,iQ,List.length_append,dX] at *;omega
theorem TE (l m:List Int):nX (l++m)=nX l++nX m:=by simp[nX]
theorem ZI {c:Int}(h:¬Gm.kS c=0)(r:List UInt8):first (enc1 c++r)=(c.toNat,(enc1 c).length):=by
 have h1:=wO h;have hl:=acN h;obtain⟨n,rfl⟩:∃ n:Nat,c=(n:Int):=⟨c.toNat,by omega⟩;have hu:Gm.kS (n:Int)=((enc1 (n:Int)).length:Int):=hl.symm;clear hl;by_cases a1:(n:Int)<=127
 ·have e:enc1 (n:Int)=[u8 n]:=by unfold enc1;simp only[bU];rw[if_pos a1]
  rw[e] at hu ⊢;unfold first
  simp only[gI,jh,rW n (by omega)];have hh:head n=(1,n):=by unfold head;rw[if_pos (by omega)]
  rw[hh];simp[cont,hu]
 ·by_cases a2:(n:Int)<=2047
  ·have e:enc1 (n:Int)=[u8 (192+n/64),u8 (128+n%64)]:=by unfold enc1;simp only[bU];rw[if_neg a1,if_pos a2]
   rw[e] at hu ⊢;unfold first
   have b1:(u8 (192+n/64)).toNat=192+n/64:=rW _ (by omega);have b2:(u8 (128+n%64)).toNat=128+n%64:=rW _ (by omega);have hh:head (192+n/64)=(2,(192+n/64)%32):=by unfold head;rw[if_neg (by omega),if_pos (by omega)]
   simp only[gI,jh,b1,hh];have hn:(192+n/64)%32*64+(128+n%64)%64=n:=by omega
   rw[if_neg (by simp)];simp only[Nat.add_one_sub_one,jK,List.take_zero,cont,b2];rw[if_neg (by omega)];simp only[hn];rw[if_pos (by simpa using hu)];rfl
  ·by_cases a3:(n:Int)<=65535
   ·have e:enc1 (n:Int)=[u8 (224+n/4096),u8 (128+n/64%64),u8 (128+n%64)]:=by unfold enc1;simp only[bU];rw[if_neg a1,if_neg a2,if_pos a3]
    rw[e] at hu ⊢;unfold first
    have b1:(u8 (224+n/4096)).toNat=224+n/4096:=rW _ (by omega);have b2:(u8 (128+n/64%64)).toNat=128+n/64%64:=rW _ (by omega);have b3:(u8 (128+n%64)).toNat=128+n%64:=rW _ (by omega);have hh:head (224+n/4096)=(3,(224+n/4096)%16):=by unfold head;rw[if_neg (by omega),if_neg (by omega),if_pos (by omega)]
    simp only[gI,jh,b1,hh];have hn:((224+n/4096)%16*64+(128+n/64%64)%64)*64+(128+n%64)%64=n:=by omega
    rw[if_neg (by simp)];simp only[Nat.reduceSub,jK,List.take_zero,cont,b2,b3];rw[if_neg (by omega),if_neg (by omega)];simp only[hn];rw[if_pos (by simpa using hu)];rfl
   ·have e:enc1 (n:Int)=[u8 (240+n/262144),u8 (128+n/4096%64),u8 (128+n/64%64),u8 (128+n%64)]:=by unfold enc1;simp only[bU];rw[if_neg a1,if_neg a2,if_neg a3]
    rw[e] at hu ⊢;unfold first
    have b1:(u8 (240+n/262144)).toNat=240+n/262144:=rW _ (by omega);have b2:(u8 (128+n/4096%64)).toNat=128+n/4096%64:=rW _ (by omega);have b3:(u8 (128+n/64%64)).toNat=128+n/64%64:=rW _ (by omega);have b4:(u8 (128+n%64)).toNat=128+n%64:=rW _ (by omega);have hh:head (240+n/262144)=(4,(240+n/262144)%8):=by unfold head;rw[if_neg (by omega),if_neg (by omega),if_neg (by omega),if_pos (by omega)]
    simp only[gI,jh,b1,hh];have hn:(((240+n/262144)%8*64+(128+n/4096%64)%64)*64+(128+n/64%64)%64)*64+(128+n%64)%64=n:=by omega
    rw[if_neg (by simp)];simp only[Nat.reduceSub,jK,List.take_zero,cont,b2,b3,b4];rw[if_neg (by omega),if_neg (by omega),if_neg (by omega)];simp only[hn];rw[if_pos (by simpa using hu)];rfl
theorem EN:∀ (l:List Int),(∀ c∈l,¬Gm.kS c=0)->oH (nX l)=(l,(nX l).length)
 | [],_=>rfl
 | c::r,h=>by
  have hc:=h c (by simp);have e:nX (c::r)=enc1 c++nX r:=by simp[nX]
  have hf:=ZI hc (nX r);have h1:=wO hc;have hn:¬(first (nX (c::r))).2=0:=by
   rw[e,hf];have:=List.length_pos_iff.2 (afV c);simp only;omega
  rw[Jn hn,e,hf];simp only[List.drop_left];rw[EN r (fun d hd=>h d (aU _ hd))];simp only[List.length_append,Prod.mk.injEq,List.cons.injEq,and_true];omega
theorem U_ {l:List Int}(h:∀ c∈l,¬Gm.kS c=0)(hl:(nX l).length<=4096):dec (nX l)=(l,0,0):=by
 unfold dec;rw[if_neg (by omega),EN l h];simp
end Go.Proofs.YtkachcflifhgiaaGreatDoor.Ut
