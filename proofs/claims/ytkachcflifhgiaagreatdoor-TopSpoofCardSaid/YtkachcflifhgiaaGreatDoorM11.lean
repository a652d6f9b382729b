/-      -/
import Derived.Test.YtkachcflifhgiaaGreatDoorM07
import Derived.Shelf.Strings.LastIndex
import Derived.Shelf.Spec.SlicesInsert
import Derived.Shelf.Spec.SlicesInsertGrow
import Derived.Test.YtkachcflifhgiaaGreatDoorM01
import Derived.Deep.AppendSrc
set_option linter.unusedVariables false
set_option maxRecDepth 100000
set_option maxHeartbeats 16000000
namespace Go.Proofs.YtkachcflifhgiaaGreatDoor
theorem a_:type_of% @Go.Lib.wp_append_run:=@Go.Lib.wp_append_run
open Go Go.RowKit Go.Shelf Go.Proofs
def abR:Go.Shelf.Ren:=⟨fun | 149=>250 | 222=>291 | n=>n,fun | 3=>3 | 4=>4 | 5=>5 | 9=>9 | n=>n,fun | n=>n⟩
theorem Y2:Lays.n149 Tryz.prog abR:={
 mixed:=by kernel_rfl
 f149:=Tryz.func250.trans (aV some (by kernel_rfl))
 f222:=Tryz.func291.trans (aV some (by kernel_rfl))
 t3:=bM
 a3:=Tryz.isAgg3
 z3:=Tryz.sizeOf3
 v3:=gX
 t4:=eP
 a4:=Tryz.isAgg4
 z4:=Tryz.sizeOf4
 v4:=iH
 t5:=dO
 a5:=Tryz.isAgg5
 z5:=Tryz.sizeOf5
 v5:=iK
 t9:=dW
 a9:=Tryz.isAgg9
 z9:=Tryz.sizeOf9
 v9:=jk }
def aft:Go.Shelf.Ren:=⟨fun | 21=>68 | 27=>118 | 28=>119 | 35=>178 | 39=>237 | n=>n,
 fun | 0=>0 | 3=>3 | 4=>4 | 22=>22 | n=>n,fun | n=>n⟩
theorem AO:Lays2.n21 Tryz.prog aft:={
 mixed:=by kernel_rfl
 f21:=Tryz.func68.trans (aV some (by kernel_rfl))
 f27:=Tryz.func118.trans (aV some (by kernel_rfl))
 f28:=Tryz.func119.trans (aV some (by kernel_rfl))
 f35:=Tryz.func178.trans (aV some (by kernel_rfl))
 f39:=Tryz.func237.trans (aV some (by kernel_rfl))
 t0:=jb
 a0:=Tryz.isAgg0
 z0:=Tryz.sizeOf0
 v0:=jl
 t3:=bM
 a3:=Tryz.isAgg3
 z3:=Tryz.sizeOf3
 v3:=gX
 t4:=eP
 a4:=Tryz.isAgg4
 z4:=Tryz.sizeOf4
 v4:=iH
 t22:=bC
 a22:=Tryz.isAgg22
 z22:=Tryz.sizeOf22
 v22:=Tryz.zeroValue22
 i3:=AP }
theorem YZ (s:ByteArray)(c:Int)(hs:s.size<4611686018427387904)(w:World) :
  Calls Tryz.prog 250 #[.string s,.int .u8 c] w fun e w'=>e=.returned (.int .i64 (Lib.lastIndexByte s c))/\w'=w:=Any.strings_LastIndexByte Y2 s c hs w
theorem xU {g:Nat}{e:TypeId}:∀ (vs:List Value) (o:Nat) (w:World) (cur:Array Value),w.heap[g]?=some (.cells cur e (0,0)) ->
  ∃ cur':Array Value,(w.setCells g o vs).heap[g]?=some (.cells cur' e (0,0))/\cur'.size=cur.size
 | [],_,_,cur,h=>⟨cur,h,rfl⟩
 | v::r,o,w,cur,h=>by
  have h1:Bk (w.setCell ⟨g,o,none⟩ v) g e (cur.setIfInBounds o v):=Bk.kM (w:=w) (g:=g) (t:=e) (cs:=cur) h o v;obtain⟨c',k1,k2⟩:=xU r (o+1) (w.setCell ⟨g,o,none⟩ v) _ h1;exact⟨c',k1,by rw[k2];simp⟩
theorem vV {B g:Nat}(hg:B<=g):∀ (vs:List Value) (o:Nat) {a w:World},Below B a w->Below B a (w.setCells g o vs)
 | [],_,_,_,h=>h
 | v::r,o,_,w,h=>vV hg r (o+1) (h.setCell (p:=⟨g,o,none⟩) hg v)
theorem uT {w:World}{base g cap n:Nat}{e:TypeId}{xs:List Value}{cur:Array Value}(hb:base<=g)(hh:w.heap[g]?=some (.cells cur e (0,0)))(hn:n<=cap)(hm:cap<=maxLen)(hs:cur.size=cap)
  (hx:xs.length=n) (hc:∀ j v,xs[j]?=some v->w.cell? ⟨g,j,none⟩=some v):w.ownsRow base e 1 (.slice (some ⟨g,0,none⟩) n cap) n xs:=by
 refine⟨by omega,.inr ⟨g,cap,cur,rfl,hb,hh,hn,hm,by omega,?_⟩⟩;rw[Nat.mul_one];apply List.ext_getElem?;intro j;by_cases hj:j<n
 ·have h1:=hc j xs[j] (au (by omega));rw[jv w g j cur e (0,0) hh] at h1;rw[fU hj,jB,h1,au (by omega)]
 ·rw[dJ (by rw[bZ];omega),dJ (by omega)]
theorem qU (xs:List Int)(i:Nat)(x:Int)(h:i<=xs.length):(Pn.ins xs i x).length=xs.length+1:=by unfold Pn.ins;simp;omega
theorem JJ (xs:List Int)(i:Nat)(x:Int)(h:i<=xs.length)(j:Nat):(ints (Pn.ins xs i x))[j]?=if j<i then (ints xs)[j]? else if j=i then some (.int .i64 x) else (ints xs)[j-1]?:=by
 rw[ints_at,ints_at,ints_at];unfold Pn.ins;by_cases h1:j<i
 ·rw[aj h1,dQ,bz (by rw[bZ];omega),fU h1]
 ·rw[ah h1];by_cases h2:j=i
  ·subst h2;rw[aj rfl,bz (by simp;omega),aT (by rw[bZ];omega)];have:j-(xs.take j).length=0:=by rw[bZ];omega
   rw[this];rfl
  ·rw[ah h2,aT (by simp;omega),ji];congr 2
   simp;omega
def Rk (base:Nat)(xs:List Int)(i:Nat)(x:Int)(w:World)(e:Ending)(w':World):Prop:=
 ∃ A c,e=.returned (.slice A (xs.length+1) c)/\w'.ownsRow base 3 1 (.slice A (xs.length+1) c) (xs.length+1) (ints (Pn.ins xs i x))/\Below base w w'
theorem Qa (xs:List Int)(x:Int)(base c:Nat)(w:World)(hl:xs.length<=1000000)(hbase:base<=w.heap.size) :
  Rk base xs xs.length x w (.returned (.slice (some ⟨w.heap.size,0,none⟩) (xs.length+1) (grownCap w (xs.length+1) c 3)))
   (w.drew.alloc (.cells ((ints xs++[Value.int .i64 x]).toArray++Builtin.zeroCells (Value.int .i64 0).cells (grownCap w (xs.length+1) c 3-(xs.length+1))) 3)):=by
 have hge:=grownCap_ge w (xs.length+1) c 3;have hcm:=grownCap_le_maxLen w (xs.length+1) c 3 (by unfold maxLen;omega);generalize grownCap w (xs.length+1) c 3=G at *;refine⟨_,_,rfl,?_,((ai base w).drew).alloc hbase _⟩;have hnew:=gK w.drew (.cells ((ints xs++[Value.int .i64 x]).toArray++Builtin.zeroCells (Value.int .i64 0).cells (G-(xs.length+1))) 3);refine uT hbase hnew hge hcm ?_ (by rw[kH,qU _ _ _ (ag _)]) ?_
 ·simp only[Array.size_append,iR,size_zeroCells,aA,kH];simp[Value.cells];omega
 ·intro j v hj;have hc:(w.drew.alloc (.cells ((ints xs++[Value.int .i64 x]).toArray++Builtin.zeroCells (Value.int .i64 0).cells (G-(xs.length+1))) 3)).cell? ⟨w.heap.size,j,none⟩=((ints xs++[Value.int .i64 x]).toArray++Builtin.zeroCells (Value.int .i64 0).cells (G-(xs.length+1)))[j]?:=
   jv _ _ _ _ _ (0,0) hnew
  rw[hc];have hjl:=(ak.1 hj).1;rw[kH,qU _ _ _ (ag _)] at hjl;rw[JJ xs _ x (ag _)] at hj;rw[iO (by simp[kH];omega),bK];by_cases h1:j<xs.length
  ·rw[aj h1] at hj;rw[bz (by rw[kH];exact h1)];exact hj
  ·have h2:j=xs.length:=by omega
   rw[ah h1,aj h2] at hj;rw[aT (by rw[kH];omega),kH,h2,gY];exact hj
theorem WZ (A:Option Addr)(c:Nat)(xs:List Int)(i:Nat)(x:Int)(vb base:Nat)(w:World)(ho:w.ownsRow base 3 1 (.slice A xs.length c) xs.length (ints xs))(hb:Bk w vb 3 #[.int .i64 x])
  (hne:(Value.slice A xs.length c).ownBlock≠some vb) (hi:i<=xs.length) (hl:xs.length<=1000000) (hbase:base<=w.heap.size) :
  Calls Tryz.prog 68 #[.slice A xs.length c,.int .i64 (i:Int),.slice (some ⟨vb,0,none⟩) 1 1] w (Rk base xs i x w):=by
 have hvs:∀ j v,([Value.int .i64 x]:List Value)[j]?=some v->w.cell? ⟨vb,0+j,none⟩=some v:=by
  intro j v hj;rw[hb.cell,bf];simpa using hj
 have h1v:∀ v∈([Value.int .i64 x]:List Value),v.oneCell'=true:=by intro v hv;rw[aB.1 hv];rfl
 have hcs0:=fun (g:Nat)=>ho.cells (g:=g);rcases ho.2 with ⟨hv,h0⟩ | ⟨g,cap,cur,hv,hbg,hh,hnc,hcm,hcs,htk⟩
 ·injection hv with e1 e2 e3
  subst e1;subst e3;have hx:xs=[]:=bu h0;subst hx;have:i=0:=by simpa using hi
  subst this;refine (Any2.slices_Insert_int_end_grow AO none 0 0 vb 0 1 1 [] [Value.int .i64 x] w (by omega) (by omega) (by omega) (by omega) rfl rfl (fun _=>rfl) (fun a h=>by cases h) hvs h1v).mono ?_;rintro e w' ⟨rfl,rfl⟩;exact Qa [] x base 0 w (by simp) hbase
 ·injection hv with e1 e2 e3
  subst e1;subst e3;have hcells:∀ j v,(ints xs)[j]?=some v->w.cell? ⟨g,0+j,none⟩=some v:=by
   intro j v hj;have:=hcs0 g rfl j v hj;rwa [LW] at this
  have hsome:∀ j,j<c->(w.cell? ⟨g,0+j,none⟩).isSome=true:=by
   intro j hj;rw[jv w g (0+j) cur _ (0,0) hh,bf,fH (by omega)];rfl
  have hfz:∀ j,w.frozen? ⟨g,0+j,none⟩=false:=fun j=>Bk.frozen (w:=w) (g:=g) (t:=3) (cs:=cur) hh (0+j);have hgv:vb≠g:=fun e=>hne (by rw[e];rfl);by_cases hin:i=xs.length
  ·subst hin;by_cases hroom:c<xs.length+1
   ·refine (Any2.slices_Insert_int_end_grow AO (some ⟨g,0,none⟩) xs.length c vb 0 1 1 (ints xs) [Value.int .i64 x] w (by omega) hnc hroom (by omega) (kH xs) rfl (fun h=>by cases h)
     (fun a h j v hj=>by injection h with h;subst h;rw[LW];exact hcells j v hj) hvs h1v).mono ?_
    rintro e w' ⟨rfl,rfl⟩;exact Qa xs x base c w hl hbase
   ·refine (Any2.slices_Insert_int_end_room AO g 0 xs.length c vb 0 1 1 [Value.int .i64 x] w (by omega) (by omega) (by unfold maxLen at hcm;omega) rfl
     (fun j hj=>by rw[jg];exact hsome _ (by omega)) (fun j hj=>by rw[jg];exact hfz _) hvs h1v).mono ?_
    rintro e w' ⟨rfl,rfl⟩;obtain⟨cur',k1,k2⟩:=xU [Value.int .i64 x] (0+xs.length) w cur hh;refine⟨_,_,rfl,uT hbg k1 (by omega) hcm (by omega) (by rw[kH,qU _ _ _ (ag _)]) ?_,vV hbg _ _ (ai base w)⟩;intro j v hj;have hjl:=(ak.1 hj).1;rw[kH,qU _ _ _ (ag _)] at hjl;rw[JJ xs _ x (ag _)] at hj;by_cases h1:j<xs.length
    ·rw[aj h1] at hj;rw[dY g _ _ _ _ (fun _ _=>.inl (by simp;omega))];have:=hcells j v hj;rwa [bf] at this
    ·have h2:j=xs.length:=by omega
     rw[ah h1,aj h2] at hj;subst h2;have:=h_ g [Value.int .i64 x] (0+xs.length) w (fun j hj=>by simp at hj;subst hj;exact hsome _ (by omega)) 0 (by simp);rw[jC,bf] at this;rw[bf,this];exact hj
  ·have hlt:i<xs.length:=by omega
   by_cases hroom:c<xs.length+1
   ·refine (Any2.slices_Insert_int_grow AO g 0 xs.length c i vb 0 1 1 (ints xs) [Value.int .i64 x] w hlt (by omega) hnc hroom (by omega) (kH xs) rfl hcells hvs (AL xs) h1v).mono ?_;rintro e w' ⟨rfl,rfl⟩;show Rk base xs i x w (.returned (.slice (some ⟨w.heap.size,0,none⟩) (xs.length+1) (grownCap w (xs.length+1) c 3))) ((((w.alloc (.cells (((ints xs).take i).toArray++Builtin.zeroCells (Value.int .i64 0).cells (xs.length+1-i)++Builtin.zeroCells (Value.int .i64 0).cells (grownCap w (xs.length+1) c 3-(xs.length+1))) 3)).drew.setCells w.heap.size i [Value.int .i64 x]).drew).setCells w.heap.size (i+1) ((ints xs).drop i));have hge:=grownCap_ge w (xs.length+1) c 3;have hcm2:=grownCap_le_maxLen w (xs.length+1) c 3 (by unfold maxLen;omega);generalize grownCap w (xs.length+1) c 3=G at *;have hrs:(((ints xs).take i).toArray++Builtin.zeroCells (Value.int .i64 0).cells (xs.length+1-i)++Builtin.zeroCells (Value.int .i64 0).cells (G-(xs.length+1))).size=G:=by
     simp only[Array.size_append,iR,size_zeroCells,bZ,kH];simp[Value.cells];omega
    have hrt:∀ j,j<i->(((ints xs).take i).toArray++Builtin.zeroCells (Value.int .i64 0).cells (xs.length+1-i)++Builtin.zeroCells (Value.int .i64 0).cells (G-(xs.length+1)))[j]?=(ints xs)[j]?:=by
     intro j hj;rw[Array.append_assoc,iO (by simp[kH];omega),bK,fU hj]
    generalize (((ints xs).take i).toArray++Builtin.zeroCells (Value.int .i64 0).cells (xs.length+1-i)++Builtin.zeroCells (Value.int .i64 0).cells (G-(xs.length+1)))=ROW at *;have hnew:(w.alloc (.cells ROW 3)).drew.heap[w.heap.size]?=some (.cells ROW 3 (0,0)):=gK w (.cells ROW 3);have hal:∀ j,(w.alloc (.cells ROW 3)).drew.cell? ⟨w.heap.size,j,none⟩=ROW[j]?:=fun j=>jv _ _ _ _ _ (0,0) hnew;have alX:Below base w (w.alloc (.cells ROW 3)).drew:=((ai base w).alloc hbase _).drew;generalize (w.alloc (.cells ROW 3)).drew=W0 at *;have Qh:∀ j,j<G->(W0.cell? ⟨w.heap.size,j,none⟩).isSome=true:=by
     intro j hj;rw[hal,fH (by omega)];rfl
    obtain⟨acT,k1,k2⟩:=xU [Value.int .i64 x] i W0 ROW hnew;obtain⟨al2,k3,k4⟩:=xU ((ints xs).drop i) (i+1) (W0.setCells w.heap.size i [Value.int .i64 x]).drew acT k1;refine⟨_,_,rfl,uT hbase k3 hge hcm2 (by omega) (by rw[kH,qU _ _ _ hi]) ?_,vV hbase _ _ (vV hbase _ _ alX).drew⟩;intro j v hj;have hjl:=(ak.1 hj).1;rw[kH,qU _ _ _ hi] at hjl;rw[JJ xs _ x hi] at hj;by_cases h1:j<i
    ·rw[aj h1] at hj;rw[dY _ _ _ _ _ (fun _ _=>.inl (by simp;omega))];show (W0.setCells w.heap.size i [Value.int .i64 x]).cell? _=_;rw[dY _ _ _ _ _ (fun _ _=>.inl (by simp;omega)),hal,hrt j h1];exact hj
    ·rw[ah h1] at hj;by_cases h2:j=i
     ·subst h2;rw[aj rfl] at hj;rw[dY _ _ _ _ _ (fun _ _=>.inl (by simp))];show (W0.setCells w.heap.size j [Value.int .i64 x]).cell? _=_;have:=h_ w.heap.size [Value.int .i64 x] j W0 (fun q hq=>by simp at hq;subst hq;exact Qh _ (by omega)) 0 (by simp);rw[jC] at this;rw[this];exact hj
     ·rw[ah h2] at hj;have hq:i+1+(j-(i+1))=j:=by omega
      have hlen:j-(i+1)<((ints xs).drop i).length:=by rw[bF,kH];omega
      have:=h_ w.heap.size ((ints xs).drop i) (i+1) (W0.setCells w.heap.size i [Value.int .i64 x]).drew (fun q hq=>by
       show ((W0.setCells w.heap.size i [Value.int .i64 x]).cell? _).isSome=true;rw[bF,kH] at hq;exact Go.Proofs.isSome_setCells _ _ _ _ (fun q hq=>by simp at hq;subst hq;exact Qh _ (by omega)) _ (Qh _ (by omega))) (j-(i+1)) hlen
      rw[hq] at this;rw[this,<-hj,<-au hlen,ji];congr 1;omega
   ·refine (Any2.slices_Insert_int_shift AO g 0 xs.length c i vb 0 1 1 (ints xs) [Value.int .i64 x] w hlt (by omega) (by omega) (by unfold maxLen at hcm;omega) hgv (kH xs) rfl hcells
     (fun j hj=>hsome j (by omega)) (fun j _=>hfz j) hvs (AL xs) h1v 3 3 1 cur.size (by unfold World.shape?;rw[show w.heap[vb]?=some (.cells #[.int .i64 x] 3 (0,0)) from hb];rfl)
     (by unfold World.shape?;rw[hh]) (by omega) (hb.frozen 0) (hb.frozen 1)).mono ?_
    rintro e w' ⟨rfl,rfl⟩;obtain⟨acT,k1,k2⟩:=xU ((ints xs).drop i) (0+(i+1)) w.drew cur hh;obtain⟨al2,k3,k4⟩:=xU [Value.int .i64 x] (0+i) (w.drew.setCells g (0+(i+1)) ((ints xs).drop i)) acT k1;refine⟨_,_,rfl,uT hbg k3 (by omega) hcm (by omega) (by rw[kH,qU _ _ _ hi]) ?_,vV hbg _ _ (vV hbg _ _ (ai base w).drew)⟩;intro j v hj;have hjl:=(ak.1 hj).1;rw[kH,qU _ _ _ hi] at hjl;rw[JJ xs _ x hi] at hj;by_cases h1:j<i
    ·rw[aj h1] at hj;rw[dY _ _ _ _ _ (fun _ _=>.inl (by simp;omega)),dY _ _ _ _ _ (fun _ _=>.inl (by simp;omega))];have:=hcells j v hj;rw[bf] at this;exact this
    ·rw[ah h1] at hj;by_cases h2:j=i
     ·subst h2;rw[aj rfl] at hj;have:=h_ g [Value.int .i64 x] (0+j) (w.drew.setCells g (0+(j+1)) ((ints xs).drop j)) (fun q hq=>by
       simp at hq;subst hq;rw[dY _ _ _ _ _ (fun _ _=>.inl (by simp))];exact hsome j (by omega)) 0 (by simp)
      simp only[bf,jC] at this ⊢;rw[this];exact hj
     ·rw[ah h2] at hj;rw[dY _ _ _ _ _ (fun _ _=>.inr (by simp;omega))];have hq:0+(i+1)+(j-(i+1))=j:=by omega
      have hlen:j-(i+1)<((ints xs).drop i).length:=by rw[bF,kH];omega
      have:=h_ g ((ints xs).drop i) (0+(i+1)) w.drew (fun q hq=>by
       rw[bF,kH] at hq;have:=hsome (i+1+q) (by omega);rw[<-jg] at this;exact this) (j-(i+1)) hlen
      rw[hq] at this;rw[this,<-hj,<-au hlen,ji];congr 1;omega
end Go.Proofs.YtkachcflifhgiaaGreatDoor
namespace Go.Proofs.YtkachcflifhgiaaGreatDoor
open Go Go.RowKit
theorem afp (s:ByteArray):(Lib.lastIndexByte s 45=(Pn.kN (lst s):Int))\/(Lib.lastIndexByte s 45=-1/\Pn.kN (lst s)=0):=by
 have hat:∀ j:Nat,j<s.size->((((s.data[j]!).toNat:Int)=45)↔(lst s)[j]?=some 45):=by
  intro j hj;have hj':j<s.data.size:=hj;rw[wH s j hj,getElem!_pos s.data j hj'];show (((s.data[j]).toNat:Int)=45)↔some s.data[j]=some 45;constructor
  ·intro h;have:s.data[j].toNat=45:=by omega
   congr 1
   apply UInt8.toNat_inj.1;exact this
  ·intro h;injection h with h
   rw[h];rfl
 rcases Lib.lastIndexByte_spec s 45 with ⟨h1,h2⟩ | ⟨i,h1,h2,h3,h4⟩
 ·right;refine⟨h1,?_⟩;rcases Pn.wV (lst s) (lst s).length with h | ⟨h5,h6⟩
  ·exact h
  ·exfalso;rw[jV] at h5 h6;exact h2 _ h6 ((hat _ h6).2 h5)
 ·left;rw[h2];have g1:=Pn.EZ (lst s) i ((hat i h1).1 h3) (lst s).length (by rw[jV];exact h1);rcases Pn.wV (lst s) (lst s).length with h | ⟨h5,h6⟩
  ·have:Pn.kN (lst s)=0:=h;have:i=0:=by omega
   rw[‹Pn.kN (lst s)=0›,this]
  ·rw[jV] at h5 h6;by_cases he:i=Pn.kN (lst s)
   ·rw[he]
   ·exfalso;have:i<Pn.u_ (lst s) s.size:=by
     have e1:Pn.kN (lst s)=Pn.u_ (lst s) s.size:=by unfold Pn.kN;rw[jV]
     rw[jV] at g1;omega
    exact h4 _ this h6 ((hat _ h6).2 h5)
def sJ (r:List Int×Int)(w:World)(e:Ending)(w':World):Prop:=
 ∃ A c,e=.returned (.tuple #[.slice A r.1.length c,.int .i64 r.2])/\w'.ownsRow w.heap.size 3 1 (.slice A r.1.length c) r.1.length (ints r.1)/\Below w.heap.size w w'
theorem sJ.bad {r:List Int×Int}{n:Int}{w w':World}(hr:r=([],n))(hb:Below w.heap.size w w'):sJ r w (.returned (.tuple #[.slice none 0 0,.int .i64 n])) w':=by
 subst hr;exact⟨none,0,rfl,aH _ _ _ _,hb⟩
theorem ZZ {s:List UInt8}(h:2048<s.length):Pn.oL s=([],7):=by unfold Pn.oL;rw[aj h]
theorem MO {L:List UInt8}{k:Nat}{b:UInt8}(h:L[k]?=some b):Pn.nums (L.take (k+1))=Pn.nums (L.take k)++[(b.toNat:Int)]:=by
 obtain⟨h1,h2⟩:=ak.1 h;rw[az h1,h2];simp[Pn.nums]
theorem Pz (L:List UInt8):(Pn.nums L).length=L.length:=by simp[Pn.nums]
theorem J_ {L:List UInt8}{k:Nat}{b:UInt8}(h:L[k]?=some b):Pn.ascii (L.take (k+1))=(Pn.ascii (L.take k)&&decide (b.toNat<128)):=by
 obtain⟨h1,h2⟩:=ak.1 h;rw[az h1,h2];simp[Pn.ascii]
theorem yV {L:List UInt8}{k n:Nat}{b:UInt8}(h:L[k]?=some b)(hk:k<n)(hb:¬b.toNat<128):Pn.ascii (L.take n)=false:=by
 cases ha:Pn.ascii (L.take n) with
 | false=>rfl
 | true=>
  exfalso;have:=b_.1 ha b (ay (i:=k) (by rw[fU hk];exact h));simp at this;exact hb (by omega)
theorem acR {L:List UInt8}(hne:L≠[])(n i b:Int)(f:Bool)(out:List Int):Pn.dec (L.length+1) L n i b f out=match Pn.rd L 0 0 1 b with
  | none=>([],12)
  | some (v,r)=>
   if 2147483647<v\/1114111<n+(v+i)/(out.length+1) then ([],8)
   else if Pn.scalar (n+(v+i)/(out.length+1)) then
    Pn.dec (r.length+1) r (n+(v+i)/(out.length+1)) ((v+i)%(out.length+1)+1) (Pn.adapt v (out.length+1) f) false (Pn.ins out ((v+i)%(out.length+1)).toNat (n+(v+i)/(out.length+1)))
   else ([],12):=by
 show Pn.dec (L.length+1) L n i b f out=_;conv=>lhs;unfold Pn.dec
 rw[ah hne];cases hr:Pn.rd L 0 0 1 b with
 | none=>rfl
 | some z=>
  obtain⟨v,r⟩:=z;have hl:=(Pn.Js L 0 0 1 b v r (by omega) (by omega) hr).2.2.1;simp only;split
  ·rfl
  ·split
   ·exact Pn.IV _ _ _ _ _ _ _ (by omega) _ hl
   ·rfl
def ady (w:World)(L:List UInt8)(vs vo:Value)(rest:List UInt8)(n i b:Int)(f:Bool)(wr:World):Prop:=
 ∃ (out:List Int) (A:Option Addr) (c:Nat),vs=.string (str rest)/\vo=.slice A out.length c/\wr.ownsRow w.heap.size 3 1 (.slice A out.length c) out.length (ints out)/\Below w.heap.size w wr /\
  out.length+rest.length<=2048/\Pn.dec (rest.length+1) rest n i b f out=Pn.oL L/\0<=i/\i<=out.length
theorem decode_any (s:ByteArray)(hs:s.size<=1000000000000000)(w:World):Calls Tryz.prog 203 #[.string s] w (sJ (Pn.oL (lst s)) w):=by
 by_cases hlong:2048<s.size
 ·have hd:=ZZ (s:=lst s) (by rw[jV];exact hlong);have HD:=jP hd;clear hd;go_enter Tryz.func203,Tryz.ntmps203
  go_wp2
  go_ret2
  exact sJ.bad HD.1 (ai _ _)
 have hs2:s.size<=2048:=by omega
 clear hlong hs;have hlast:=afp s;have hdl:Pn.kN (lst s)=0\/(0<Pn.kN (lst s)/\lst s=(lst s).take (Pn.kN (lst s))++[45]++(lst s).drop (Pn.kN (lst s)+1)/\Pn.kN (lst s)<s.size):=by
  by_cases h:0<Pn.kN (lst s)
  ·have:=Pn.abT h;rw[jV] at this;exact .inr ⟨h,this⟩
  ·exact .inl (by omega)
 have hdec:Pn.oL (lst s)=if 0<Pn.kN (lst s) then (if Pn.ascii ((lst s).take (Pn.kN (lst s))) then Pn.dec ((lst s).length+1) ((lst s).drop (Pn.kN (lst s)+1)) 128 0 72 true (Pn.nums ((lst s).take (Pn.kN (lst s)))) else ([],12))
   else Pn.dec ((lst s).length+1) (lst s) 128 0 72 true []:=by
  conv=>lhs;unfold Pn.oL
  rw[ah (by rw[jV];omega)]
 have ajb:=jP hdec;clear hdec;generalize hk:Pn.kN (lst s)=K at *;have HK:=jP hk;clear hk;go_enter Tryz.func203,Tryz.ntmps203
 go_wp2_with fail
 refine (YZ s 45 (by omega) _).mono ?_;rintro e w1 ⟨rfl,rfl⟩;generalize Lib.lastIndexByte s 45=last at *;go_upto_if 22 with fail
 go_cut [0,4] (fun vs vo wx=>∃ rest,ady w1 (lst s) vs vo rest 128 0 72 true wx)
 case first=>
  rcases hdl with h0 | ⟨h0,h1,h2⟩
  ·have hneg:¬(0:Int)<last:=by omega
   have hd:=ajb.1;rw[ah (by omega)] at hd;have HD:=jP hd;clear hd hlast;go_wp2_with fail
   go_meet
   case rel=>exact⟨lst s,[],none,0,by rw[uF],rfl,aH _ _ _ _,ai _ _,by rw[jV];simp;omega,HD.1.symm,by omega,by omega⟩
  ·have hpos:last=(K:Int):=by omega
   subst hpos;have hd:=ajb.1;rw[aj h0] at hd;have HD:=jP hd;have hex:=Bc s K (by omega);have ahy:(s.extract 0 K).size=K:=by rw[hex,lT,bZ,jV];omega
   obtain⟨cc,w2,hcv,uu,hsz2,hcc,hcells,hfz⟩:=uw (s.extract 0 K) w1;rw[ahy] at hcv;have hlx:lst (s.extract 0 K)=(lst s).take K:=by rw[hex,oh]
   rw[hlx] at hcells;have hat:∀ j,j<K->∃ b,(lst s)[j]?=some b/\w2.cell? ⟨w1.heap.size,j,none⟩=some (.int .u8 (b.toNat:Int)):=by
    intro j hj;have h3:=au (l:=lst s) (i:=j) (by rw[jV];omega);exact⟨_,h3,hcells j _ (by rw[fU hj];exact h3)⟩
   have HAT:=jP hat;have HB2:=jP uu;have HD1:=jP h1;have Qn:=extract_drop s (K+1) (by omega);have amn:=jP Qn;clear hd hlast hex ahy hcells uu hfz h1 Qn hlx hat;go_wp2_with fail
   have hdk:decide ((0:Int)<(K:Int))=true:=bT (by omega);rw[hdk];clear hdk;go_loopw [4,28] (fun vo vi wr=>∃ (j:Nat) (A:Option Addr) (c:Nat),j<=K/\vi=.int .i64 j/\vo=.slice A j c/\wr.ownsRow w2.heap.size 3 1 (.slice A j c) j (ints (Pn.nums ((lst s).take j)))/\Below w2.heap.size w2 wr/\Pn.ascii ((lst s).take j)=true) (fun _ vi _=>K-(intOf vi).toNat)
   case atStart=>exact⟨0,none,0,by omega,rfl,rfl,aH _ _ _ _,ai _ _,rfl⟩
   case round=>
    obtain⟨j,A,c,hj,rfl,rfl,ho,hb,ha⟩:=hrel;have HO:=jP ho;have HB:=jP hb;have HA:=jP ha;have hsw:=hb.size;clear ho hb ha hcv;by_cases hlt:j<K
    ·obtain⟨b,hbj,hcell⟩:=HAT.1 j hlt;have hcell2:wr.cell? ⟨w1.heap.size,j,none⟩=some (.int .u8 (b.toNat:Int)):=(HB.1.cell (p:=⟨w1.heap.size,j,none⟩) hsz2).trans hcell;have Sr:=jP hbj;clear hbj hcell;have hb256:=b.toNat_lt;by_cases JO:b.toNat<128
     ·have hb1:(b.toNat:Int)<128:=by omega
      have hn:=MO Sr.1;have ha2:=J_ Sr.1;rw[HA.1,bT JO] at ha2;have HN:=jP hn;have HA2:=jP (show Pn.ascii ((lst s).take (j+1))=true from ha2);clear hn ha2;have alY:(0:Int)<=(b.toNat:Int):=by omega
      generalize (b.toNat:Int)=bi at *;go_wp2_with (at_builtin;refine kW (by rfl) _ _ rfl (base:=w2.heap.size) rfl (HO.1.alloc _) rfl (kG (z:=wr.heap.size) rfl bi) (by omega) (by simp<;>omega) ?_)
      intro A4 c4 w4 kQ hg4 hc4;have HP:=jP (own_below HO.1 HB.1 _ hg4 hsw);have lC:=jP (show w4.ownsRow w2.heap.size 3 1 (.slice A4 (j+1) c4) (j+1) (ints (Pn.nums ((lst s).take (j+1)))) by rw[HN.1];exact kQ);clear kQ hg4 hc4;go_wp2
      go_roundw
      case rel=>exact⟨j+1,A4,c4,by omega,by go_num,rfl,lC.1,HP.1,HA2.1⟩
      case measure=>simp[intOf];omega
     ·have hb1:(128:Int)<=(b.toNat:Int):=by omega
      have hab:=yV Sr.1 hlt JO;have hdd:=HD.1;rw[hab] at hdd;have Ih:=jP (show Pn.oL (lst s)=([],12) from hdd);clear hab hdd;generalize (b.toNat:Int)=bi at *;go_wp2
      go_ret2
      exact sJ.bad Ih.1 (HB2.1.trans (HB.1.mono (by omega)))
    ·have hjK:j=K:=by omega
     subst hjK;have hdd:=HD.1;rw[HA.1,aj rfl] at hdd;have hmr:=Pn.IV ((lst s).length+1) ((lst s).drop (j+1)) 128 0 72 true (Pn.nums ((lst s).take j)) (by rw[bF];omega) (((lst s).drop (j+1)).length+1) (by omega);have hnl:(Pn.nums ((lst s).take j)).length=j:=by rw[Pz,bZ,jV];omega
     have hrl:((lst s).drop (j+1)).length+(j+1)=s.size:=by rw[bF,jV];omega
     have adl:=jP (show ady w1 (lst s) (.string (str ((lst s).drop (j+1)))) (.slice A j c) ((lst s).drop (j+1)) 128 0 72 true wr from
      ⟨Pn.nums ((lst s).take j),A,c,rfl,by rw[hnl],by rw[hnl];exact lH HO.1 (by omega),HB2.1.trans (HB.1.mono (by omega)),by rw[hnl];omega,hmr.trans hdd.symm,by omega,by rw[hnl];omega⟩)
     clear hdd hmr hnl hrl hlt hj;have hks:j+1<=s.size:=by omega
     go_wp2_with fail
     rw[amn.1];go_meet
     case rel=>exact⟨_,adl.1⟩
 case rest=>
  obtain⟨rest,hup⟩:=hcut;have Vm:=jP hup;clear hup hdl hlast;go_wp2_with fail
  go_loopw [0,4,8,9,10,11] (fun vs vo vf vn vi vb wr=>∃ (rest:List UInt8) (n i b:Int) (f:Bool),ady w1 (lst s) vs vo rest n i b f wr/\vf=.bool f/\vn=.int .i64 n/\vi=.int .i64 i/\vb=.int .i64 b/\128<=n/\n<=1114111/\0<=b/\b<=720) (fun vs _ _ _ _ _ _=>match vs with | .string t=>t.size | _=>0)
  case atStart=>exact⟨rest,128,0,72,true,Vm.1,rfl,rfl,rfl,rfl,by omega,by omega,by omega,by omega⟩
  case round=>
   obtain⟨nU,n,i,b,f,⟨out,A,c,rfl,rfl,ho,hb,hlen,hdc,i0,i1⟩,rfl,rfl,rfl,rfl,n0,n1,b0,b1⟩:=hrel;have HO:=jP ho;have HB:=jP hb;have Ew:=jP hdc;have hsw:=hb.size;clear ho hb hdc Vm;by_cases hne:nU=[]
   ·subst hne;have hfin:Pn.oL (lst s)=(out,0):=by rw[<-Ew.1];unfold Pn.dec;rw[aj rfl]
    have HF:=jP hfin;clear hfin;have hstr:str []=(⟨#[]⟩:ByteArray):=rfl;rw[hstr];go_wp2
    go_ret2
    rw[HF.1];exact⟨A,c,rfl,HO.1,HB.1⟩
   ·have hsn:=X5 hne;have hst:=acR hne n i b f out;have hrl:0<nU.length:=dK.2 hne;have HST:=jP hst;clear hst hne;have hnum:=WG (str nU) b b0 (by omega) (by rw[lT];omega) wr;rw[oh] at hnum;have amj:=jP hnum;clear hnum;go_wp2_with fail
    refine amj.1.mono ?_;rintro e w2 ⟨rfl,q,rfl⟩;cases hr:Pn.rd nU 0 0 1 b with
    | none=>
     have hbad:=HST.1;rw[hr] at hbad;have HBAD:=jP (Ew.1.symm.trans hbad);clear hbad hr;unfold PD;go_wp2
     go_ret2
     exact sJ.bad HBAD.1 (below_drewN HB.1 q)
    | some z=>
     obtain⟨v,r⟩:=z;obtain⟨v0,v1,r1,_⟩:=Pn.Js nU 0 0 1 b v r (by omega) (by omega) hr;have hst:=HST.1;rw[hr] at hst;have HS2:=jP (Ew.1.symm.trans hst);clear hst hr;unfold PD;replace HO:=jP (show (wr.drewN q).ownsRow w1.heap.size 3 1 (.slice A out.length c) out.length (ints out) from HO.1);replace HB:=jP (below_drewN HB.1 q);have hsq:w1.heap.size<=(wr.drewN q).heap.size:=hsw;generalize wr.drewN q=wq at *;by_cases hbig:2147483647<v
     ·have hd:=HS2.1;try simp only at hd
      rw[aj (.inl hbig)] at hd;have HD:=jP hd;clear hd;go_wp2
      go_ret2
      exact sJ.bad HD.1 HB.1
     ·have hL:(0:Int)<(out.length:Int)+1:=by omega
      have q0:0<=(v+i)/((out.length:Int)+1):=iL (by omega) (by omega);have q1:(v+i)/((out.length:Int)+1)<=v+i:=jG _ (by omega);have m0:=jm (v+i) (show (out.length:Int)+1≠0 by omega);have m1:=iG (v+i) hL;have t1:IntKind.i64.wrap (v+i)=v+i:=aW _ (by omega);have t2:(v+i).tdiv ((out.length:Int)+1)=(v+i)/((out.length:Int)+1):=Int.tdiv_eq_ediv_of_nonneg (by omega);have t3:(v+i).tmod ((out.length:Int)+1)=(v+i)%((out.length:Int)+1):=Int.tmod_eq_emod_of_nonneg (by omega);have hnz:¬((out.length:Int)+1=0):=by omega
      generalize hq:(v+i)/((out.length:Int)+1)=qq at *;generalize hm:(v+i)%((out.length:Int)+1)=mm at *;have t4:IntKind.i64.wrap qq=qq:=aW _ (by omega);have t5:IntKind.i64.wrap (n+qq)=n+qq:=aW _ (by omega);have t6:IntKind.i64.wrap mm=mm:=aW _ (by omega);have HQ:=jP hq;have HM:=jP hm;clear hq hm;go_wp2_with fail
      go_quiet (fail)
      clear t1 t2 t3 t4 t5 t6 hnz;replace HO:=jP (show (wq.drewN nq).ownsRow w1.heap.size 3 1 (.slice A out.length c) out.length (ints out) from HO.1);replace HB:=jP (below_drewN HB.1 nq);have alz:w1.heap.size<=(wq.drewN nq).heap.size:=hsq;generalize wq.drewN nq=wn at *;have hd:=HS2.1;try simp only at hd
      rw[HQ.1,HM.1] at hd;by_cases hbig2:1114111<n+qq
      ·rw[aj (.inr hbig2)] at hd;have HD:=jP hd;clear hd;go_wp2
       go_ret2
       exact sJ.bad HD.1 HB.1
      ·rw[ah (by omega)] at hd;have hz:=Pn.P5 (n+qq);go_wp2_with fail
       refine (JE (n+qq) _).mono ?_;rintro e w9 ⟨rfl,qP⟩;subst qP;generalize Pn.len (n+qq)=ln at *;cases hsc:Pn.scalar (n+qq)
       ·rw[hsc] at hd hz;have HD:=jP (show Pn.oL (lst s)=([],12) from hd);clear hd hsc;go_wp2
        go_ret2
        exact sJ.bad HD.1 HB.1
       ·rw[hsc] at hd hz;rw[aj rfl] at hd;have HD:=jP hd;clear hd hsc;obtain⟨M,rfl⟩:=fZ m0;have hM:M<=out.length:=by omega
        have hbk:=Bk.new wn 3 #[.int .i64 (n+qq)];have hne2:(Value.slice A out.length c).ownBlock≠some wn.heap.size:=by
         intro e;have:=(HO.1.lt _ e).2;omega
        have Vz:=jP (WZ A c out M (n+qq) wn.heap.size w1.heap.size _ (HO.1.alloc (.cells #[.int .i64 (n+qq)] 3)) hbk hne2 hM (by omega) (by simp<;>omega));have HBA:=jP (HB.1.alloc alz (.cells #[.int .i64 (n+qq)] 3));clear hbk hne2;go_wp2_with fail
        refine Vz.1.mono ?_;rintro e w5 ⟨A5,c5,rfl,oK,hb5⟩;have hil:=qU out M (n+qq) hM;have lD:=jP oK;have nS:=jP (HBA.1.trans hb5);have HIL:=jP hil;clear oK hb5 hil;go_wp2_with fail
        refine (Nw v ((out.length:Int)+1) f w5).mono ?_;have ha0:=(Pn.IY v ((out.length:Int)+1) f).1;have ha1:=(Pn.IY v ((out.length:Int)+1) f).2;generalize Pn.adapt v ((out.length:Int)+1) f=ad at *;rintro e w6 ⟨rfl,hw6⟩;subst hw6;have hrr:(str r).size<(str nU).size:=by rw[lT,lT];exact r1
        go_wp2
        go_roundw
        case rel=>
         refine⟨r,n+qq,(M:Int)+1,ad,false,⟨Pn.ins out M (n+qq),A5,c5,rfl,by rw[HIL.1],by rw[HIL.1];exact lD.1,nS.1,by rw[HIL.1];omega,?_,by omega,by rw[HIL.1];omega⟩,rfl,rfl,by go_num,rfl,by omega,by omega,ha0,ha1⟩;have:=HD.1;rw[Int.toNat_natCast] at this;exact this.symm
        case measure=>simpa using hrr
def yF (w:World)(g:Nat)(L:List UInt8)(k:Nat)(wr:World):Prop:=
 (∀ j b,L[j]?=some b->wr.cell? ⟨g,j,none⟩=some (.int .u8 ((if j<k then Al.lb b else b).toNat:Int))/\wr.frozen? ⟨g,j,none⟩=false)/\Below w.heap.size w wr
theorem yF.put {w wr:World}{g:Nat}{L:List UInt8}{k:Nat}{b:UInt8}{v:Int}(h:yF w g L k wr)(hb:L[k]?=some b)(hv:v=((Al.lb b).toNat:Int))(hg:w.heap.size<=g):yF w g L (k+1) (wr.setCell ⟨g,k,none⟩ (.int .u8 v)):=by
 refine⟨fun j c hj=>?_,h.2.setCell (p:=⟨g,k,none⟩) hg _⟩;obtain⟨h1,h2⟩:=h.1 j c hj;refine⟨?_,by rw[World.frozen?_setCell];exact h2⟩;by_cases e:j=k
 ·subst e;rw[hb] at hj;injection hj with hj;subst hj
  rw[World.cell?_setCell_same _ _ _ h1,aj (by omega),hv]
 ·rw[bQ _ _ _ _ (by intro e2;injection e2 with _ e3 _;exact e e3.symm),h1];by_cases h3:j<k
  ·rw[aj h3,aj (by omega)]
  ·rw[ah h3,ah (by omega)]
theorem yF.skip {w wr:World}{g:Nat}{L:List UInt8}{k:Nat}{b:UInt8}(h:yF w g L k wr)(hb:L[k]?=some b)(hv:Al.lb b=b):yF w g L (k+1) wr:=by
 refine⟨fun j c hj=>?_,h.2⟩;obtain⟨h1,h2⟩:=h.1 j c hj;refine⟨?_,h2⟩;by_cases e:j=k
 ·subst e;rw[hb] at hj;injection hj with hj;subst hj
  rw[h1,ah (by omega),aj (by omega),hv]
 ·rw[h1];by_cases h3:j<k
  ·rw[aj h3,aj (by omega)]
  ·rw[ah h3,ah (by omega)]
theorem yF.conv {w wr:World}{g:Nat}{L:List UInt8}{n c:Nat}(h:yF w g L n wr)(hn:L.length=n) :
  (convert 177 9 (.slice (some ⟨g,0,none⟩) n c)).run Tryz.prog wr=.ok (.string (str (Al.low L))) wr:=by
 subst hn;have:=run_convert_bytes_back (P:=Tryz.prog) wr 177 9 5 ⟨g,0,none⟩ c (Al.low L) dI dO dW (fun j hj=>by
  rw[Al.Dj] at hj;rw[LW,bf,(h.1 j L[j] (au hj)).1,aj hj];simp[Al.low])
 rw[Al.Dj] at this;exact this
theorem EY (s:ByteArray)(hs:s.size<=maxLen)(w:World):Calls Tryz.prog 202 #[.string s] w fun e w'=>e=.returned (.string (str (Al.low (lst s))))/\Below w.heap.size w w':=by
 unfold maxLen at hs;obtain⟨cc,w2,hcv,uu,hsz2,hcc,hcells,hfz⟩:=uw s w;have hup:yF w w.heap.size (lst s) 0 w2:=⟨fun j b hj=>⟨by rw[ah (by omega)];exact hcells j b hj,hfz j (by have:=(ak.1 hj).1;rw[jV] at this;exact this)⟩,uu⟩;have Vm:=jP hup;have hll:=jV s;have zN:=jP hll;clear uu hcells hfz hup hsz2 hll;go_enter Tryz.func202,Tryz.ntmps202
 go_wp2_with fail
 clear hcv;go_loopw [10] (fun i wr=>∃ k:Nat,k<=s.size/\i=.int .i64 k/\yF w w.heap.size (lst s) k wr) (fun i _=>s.size-(intOf i).toNat)
 case atStart=>exact⟨0,by omega,rfl,Vm.1⟩
 case round=>
  obtain⟨k,hk,rfl,hu⟩:=hrel;have HU:=jP hu;clear hu;by_cases hlt:k<s.size
  ·have hat:=wH s k hlt;generalize s[k]=b at *;obtain⟨hc,hf⟩:=HU.1.1 k b hat;rw[ah (by omega)] at hc;have HAT:=jP hat;clear hat;have hki:(k:Int)<(s.size:Int):=by omega
   have hb256:=b.toNat_lt;by_cases hbig:65<=b.toNat/\b.toNat<=90
   ·have hl:=Al.ag3 hbig;have RU:=jP hl;clear hl;obtain⟨g1,g2⟩:=hbig;have g3:(65:Int)<=(b.toNat:Int):=by omega
    have g4:(b.toNat:Int)<=90:=by omega
    have HPU:=jP (fun v hv=>HU.1.put (v:=v) HAT.1 hv (ag _));have ahr:=RU.1;have HX:=jP (show ∀ x:Int,x=(b.toNat:Int)->x+32=((Al.lb b).toNat:Int) by intro x hx;rw[hx];exact ahr.symm);clear ahr g1 g2;generalize hx:(b.toNat:Int)=x at *;have HXX:=jP (HX.1 x rfl);clear hx;go_wp2
    go_roundw
    case rel=>exact⟨k+1,by omega,by go_num,HPU.1 _ (by have:=HXX.1;omega)⟩
    case measure=>simp[intOf];omega
   ·have HSK:=jP (HU.1.skip HAT.1 (Al.UI hbig));have hb2:(b.toNat:Int)<65\/(65<=(b.toNat:Int)/\90<(b.toNat:Int)):=by omega
    clear hbig;generalize (b.toNat:Int)=x at *;rcases hb2 with hb2 | ⟨hb2,hb3⟩
    all_goals
     go_wp2
     go_roundw
     case rel=>exact⟨k+1,by omega,by go_num,HSK.1⟩
     case measure=>simp[intOf];omega
  ·have hkn:k=s.size:=by omega
   subst hkn;have hcv:=HU.1.conv (n:=s.size) (c:=cc) zN.1;go_wp2
   go_ret
   exact⟨rfl,HU.1.2⟩
theorem Zi (s:ByteArray)(hs:s.size<=maxLen)(w:World):Calls Tryz.prog 142 #[.string s] w fun e w'=>e=.returned (.bool (Al.wW (lst s)))/\Below w.heap.size w w':=by
 have hll:=jV s;by_cases h:4<=s.size
 ·have hx:Al.wW (lst s)=decide (Al.low ((lst s).take 4)=[120,110,45,45]):=by unfold Al.wW;rw[hll,bT h,je]
  have hex:=Bc s 4 h;have hls:lst (s.extract 0 4)=(lst s).take 4:=by rw[hex,oh]
  have hcl:=fun w=>EY (s.extract 0 4) (by rw[hex,lT,bZ];unfold maxLen;omega) w;rw[hls] at hcl;have VE:=jP hcl;have HX:=jP hx;clear hll hx hex hls hcl;have hi:(4:Int)<=(s.size:Int):=by omega
  go_enter Tryz.func142,Tryz.ntmps142
  go_wp2_with fail
  refine (VE.1 _).mono ?_;rintro e w1 ⟨rfl,hb⟩;have HB:=jP hb;clear hb;generalize Al.low ((lst s).take 4)=M at *;go_wp2
  go_ret
  refine⟨?_,HB.1⟩;have htl:(str M).toList=M:=by rw[eY];rfl
  show Ending.returned (.bool ((str M).toList==[120,110,45,45]))=_;rw[htl,HX.1];by_cases hM:M=[120,110,45,45]
  ·subst hM;rfl
  ·rw[bD hM,aX.2 hM]
 ·have hx:Al.wW (lst s)=false:=by unfold Al.wW;rw[hll,bD h,Bool.false_and]
  rw[hx];have hi:(s.size:Int)<4:=by omega
  go_enter Tryz.func142,Tryz.ntmps142
  go_wp2
  go_ret
  exact⟨rfl,ai _ _⟩
theorem Al.yV {l:List Int}{k:Nat}{c:Int}(hk:l[k]?=some c)(hc:c<0\/127<c):Al.ascii l=false:=by
 cases h:Al.ascii l with
 | false=>rfl
 | true=>have:=b_.1 h c (ay hk);simp at this;omega
theorem FI (A:Option Addr)(c:Nat)(l:List Int)(B:Nat)(w:World)(hr:Rd w B 1 A l.length (ints l))(hl:l.length<=1000000000000000) :
  Calls Tryz.prog 141 #[.slice A l.length c] w fun e w'=>e=.returned (.bool (Al.ascii l))/\w=w':=by
 have HR:=jP hr;clear hr;go_enter Tryz.func141,Tryz.ntmps141
 go_wp2_with fail
 go_loop [7] (fun i=>∃ k:Nat,k<=l.length/\i=.int .i64 k/\∀ j c,j<k->l[j]?=some c->0<=c/\c<=127) (fun i=>l.length-(intOf i).toNat)
 case atStart=>exact⟨0,by omega,rfl,fun j c h=>by omega⟩
 case round=>
  obtain⟨k,hk,rfl,hall⟩:=hrel;have ajk:=jP hall;clear hall;by_cases hlt:k<l.length
  ·obtain⟨b,off,cc,rfl,hb,hat,hcell⟩:=jZ HR.1 hlt;have HAT:=jP hat;clear hat;by_cases h1:cc<0
   ·have HF:=jP (Al.yV HAT.1 (.inl h1));go_wp2
    go_ret
    exact⟨by rw[HF.1];rfl,rfl⟩
   ·by_cases h2:127<cc
    ·have HF:=jP (Al.yV HAT.1 (.inr h2));have h3:0<=cc:=by omega
     clear h1;go_wp2
     go_ret
     exact⟨by rw[HF.1];rfl,rfl⟩
    ·have h3:0<=cc:=by omega
     have h4:cc<=127:=by omega
     clear h1 h2;go_wp2
     go_round
     case rel=>
      refine⟨k+1,by omega,by go_num,fun j c hj hjc=>?_⟩;by_cases e:j=k
      ·subst e;rw[HAT.1] at hjc;injection hjc with hjc;subst hjc;exact⟨h3,h4⟩
      ·exact ajk.1 j c (by omega) hjc
     case measure=>simp[intOf];omega
  ·have hf:Al.ascii l=true:=by
    unfold Al.ascii;rw[b_];intro c hc;obtain⟨j,hj⟩:=List.getElem?_of_mem hc;have:=ajk.1 j c (by have:=(ak.1 hj).1;omega) hj;simp;omega
   have HF:=jP hf;clear hf;go_wp2
   go_ret
   exact⟨by rw[HF.1];rfl,rfl⟩
theorem QW (s:ByteArray):byteCells s=mW (lst s):=by unfold byteCells mW lst;rfl
theorem Z8 (w:World)(C:Array Value)(n:Nat):(convert 177 177 (.slice (some ⟨w.heap.size,0,none⟩) n n)).run Tryz.prog (w.alloc (.cells C 5)) =
  .ok (.slice (some ⟨w.heap.size,0,none⟩) n n) (w.alloc (.cells C 5 (C.size,C.size+1))):=by
 have hsh:(w.alloc (.cells C 5)).shape? w.heap.size=some (5,C.size):=by
  have:(w.alloc (.cells C 5)).heap[w.heap.size]?=some (.cells C 5):=by
   show (w.heap.push (.cells C 5))[w.heap.size]?=_;simp
  unfold World.shape?;rw[this]
 have hm:∀ (a:Array Obj) (x:Obj) (f:Obj->Obj),(a.push x).modify a.size f=a.push (f x):=by
  intro a x f;apply Array.ext
  ·simp
  ·intro i h1 h2;simp only[Array.getElem_modify,Array.getElem_push];by_cases h:a.size=i
   ·subst h;simp
   ·have hi:i<a.size:=by simp at h1;omega
    simp[h,hi]
 have hfr:(w.alloc (.cells C 5)).freeze ⟨w.heap.size,C.size,none⟩ 1=w.alloc (.cells C 5 (C.size,C.size+1)):=by
  unfold World.freeze;rw[ah (by decide)];show ({ w.alloc (.cells C 5) with heap:=(w.heap.push (.cells C 5)).modify w.heap.size _ }:World)=_;rw[hm];rfl
 simp[convert,run_underlying dI,run_underlying dO,markStringish,hsh];exact hfr
def Xn (w:World)(g:Nat):Prop:=g<w.heap.size/\∀ j v,(mW [120,110,45,45])[j]?=some v->w.cell? ⟨g,j,none⟩=some v
theorem Xn.new (w:World)(fr:Nat×Nat):Xn (w.alloc (.cells #[.int .u8 120,.int .u8 110,.int .u8 45,.int .u8 45] 5 fr)) w.heap.size:=by
 refine⟨by simp,fun j v hj=>?_⟩;rw[World.cell?_alloc_mark,<-jB];exact hj
theorem ae4 (w:World)(g:Nat)(ty:TypeId)(hb:Xn w g)(s:List UInt8)(hs0:s≠[])(hs:s.length<=1000000)(base:Nat)(hg:base<=w.heap.size) :
  ∃ A c w',(Builtin.append_ #[177,9] ty #[.slice (some ⟨g,0,none⟩) 4 4,.string (str s)]).run Tryz.prog w=.ok (.slice A (4+s.length) c) w' /\
   w'.ownsRow base 5 1 (.slice A (4+s.length) c) (4+s.length) (mW ([120,110,45,45]++s))/\Below base w w':=by
 obtain⟨i0,hi,hz0,hz1,hz2⟩:=dR Ll;have hpos:0<s.length:=dK.2 hs0;have hS:Go.Src Tryz.prog i0.size 9 (.string (str s)) s.length (mW s) w:=by
  rw[hz1];have:=Go.Src.ofString (P:=Tryz.prog) (w:=w) dW (str s);rw[QW,oh,lT] at this;exact this
 have hold:(Builtin.firstCells i0.size 4 (.slice (some ⟨g,0,none⟩) 4 4)).run Tryz.prog w.drew=.ok (mW [120,110,45,45]).toArray w.drew:=by
  rw[hz1];exact run_firstCells_some w.drew 1 4 ⟨g,0,none⟩ 4 4 (mW [120,110,45,45]) rfl (fun j v hj=>by rw[LW,bf];exact hb.2 j v hj)
 have hr:=run_append_grow_src (P:=Tryz.prog) (w:=w) 177 9 ty 5 i0 _ dI hi hz0 (some ⟨g,0,none⟩) 4 4 (mW [120,110,45,45]) hold (.string (str s)) s.length (mW s) hS (by omega) (by omega) (by rw[hz2];exact growslice_fits (by omega) (by omega));have hge:=grownCap_ge w (4+s.length) 4 5;have hcm:=grownCap_le_maxLen w (4+s.length) 4 5 (by unfold maxLen;omega);refine⟨_,_,_,hr,?_,((ai base w).drew).alloc hg _⟩;generalize grownCap w (4+s.length) 4 5=G at *;have hnew:=gK w.drew (.cells ((mW [120,110,45,45]++mW s).toArray++Builtin.zeroCells (Value.int .u8 0).cells (G-(4+s.length))) 5);refine uT hg hnew hge hcm ?_ (by rw[qY,aA];rfl) ?_
 ·simp only[Array.size_append,iR,size_zeroCells,aA,qY];simp[Value.cells];omega
 ·intro j v hj;have hc:=jv _ w.drew.heap.size j _ _ (0,0) hnew;have hjl:=(ak.1 hj).1;rw[qY,aA] at hjl;show (w.drew.alloc _).cell? ⟨w.drew.heap.size,j,none⟩=_;rw[hc,iO (by simp[qY];simp at hjl;omega),bK,<-Ef];exact hj
theorem agi {w:World}{ops:Array Oper}{rest:List Oper}{o:Oper}{a:Act}{Q:Exit->Act->World->Prop}(hw:Region.wanted o (yielded ops a.tmps)=true)(sl x:Operand)
  (ho:o.op=.call { callee:=.builtin .append,args:=#[sl,x],argTypes:=#[177,9] })
  {g:Nat} {s:List UInt8} (hs:a.eval sl=.slice (some ⟨g,0,none⟩) 4 4) (hx:a.eval x=.string (str s)) (hb:Xn w g) (hs0:s≠[]) (hl:s.length<=1000000) (base:Nat) (hg:base<=w.heap.size)
  (h:∀ A c w',w'.ownsRow base 5 1 (.slice A (4+s.length) c) (4+s.length) (mW ([120,110,45,45]++s))->Below base w w'->wpList Tryz.prog ops Q rest (a.put o.dst (.slice A (4+s.length) c)) w') :
  wpList Tryz.prog ops Q (o::rest) a w:=by
 obtain⟨A,c,w',hrun,h2,h3⟩:=ae4 w g o.type hb s hs0 hl base hg;refine wpList_step fun K hK=>?_;rw[aj hw];unfold Oper.wp execOp;simp only[ho,resolve,invoke,builtin,jM,Sem.run_pure,jy,jE,fF,List.map_nil,hs,hx,hrun];exact hK _ _ (h A c w' h2 h3)
theorem MR (A:Option Addr)(c:Nat)(l:List Int)(B:Nat)(w:World)(hr:Rd w B 1 A l.length (ints l))(hBw:B<=w.heap.size)(hl:l.length<=17592186044000) :
  Calls Tryz.prog 122 #[.slice A l.length c] w fun e w'=>e=.returned (.tuple #[.string (str (Al.lab l).1),.int .i64 (Al.lab l).2])/\Below w.heap.size w w':=by
 by_cases h0:l.length=0
 ·rw[Al.UK h0];have h0i:((l.length:Int)==0)=true:=by simp[h0]
  go_enter Tryz.func122,Tryz.ntmps122
  go_wp2
  go_ret2
  exact⟨rfl,ai _ _⟩
 have h0i:((l.length:Int)==0)=false:=by rw[aX];omega
 have hlen0:0<l.length:=by omega
 have HR:=jP hr;clear hr;have H0:=jP h0;clear h0;have hac:=FI A c l B w HR.1 (by omega);cases ha:Al.ascii l
 ·have RU:=jP (fun he=>Al.UL H0.1 ha he);have HLP:=jP (fun he=>Al.II H0.1 ha he);rw[ha] at hac;have SA:=jP hac;clear hac ha;go_enter Tryz.func122,Tryz.ntmps122
  go_wp2_with fail
  refine SA.1.mono ?_;rintro e w1 ⟨rfl,hw1⟩;subst hw1;go_wp2_with fail
  refine (Xk A c l B w HR.1 hBw (by omega)).mono ?_;rintro e w2 ⟨rfl,hb⟩;have HB:=jP hb;have hsz:=hb.size;clear hb;by_cases he:(Pn.nV l).2=0
  ·have hl1:=HLP.1 he;have hsm:=Xl he;have hmn:=afU he H0.1;rw[he];generalize (Pn.nV l).1=M at *;have Ib:=jP hl1;have HMN:=jP hmn;clear hl1 he RU HLP hmn;have pV:=jP (Xn.new w2 (4,5));have HBA:=jP (HB.1.alloc hsz (.cells #[.int .u8 120,.int .u8 110,.int .u8 45,.int .u8 45] 5 (4,5)));have apg:(convert 177 177 (.slice (some ⟨w2.heap.size,0,none⟩) 4 4)).run Tryz.prog (w2.alloc (.cells #[.int .u8 120,.int .u8 110,.int .u8 45,.int .u8 45] 5))=.ok (.slice (some ⟨w2.heap.size,0,none⟩) 4 4) (w2.alloc (.cells #[.int .u8 120,.int .u8 110,.int .u8 45,.int .u8 45] 5 (4,5))):=Z8 w2 _ 4;go_wp2_with (at_builtin;refine agi (by rfl) _ _ rfl rfl rfl pV.1 HMN.1 (by omega) w.heap.size (by simp;omega) ?_)
   intro A3 c3 w3 ho3 hb3;have mX:=jP ho3;have HB3:=jP (HBA.1.trans hb3);clear ho3 hb3;by_cases h63:63<4+M.length
   ·have hl2:=Ib.1;rw[aj h63] at hl2;have HL2:=jP hl2;clear hl2;have IP:(63:Int)<4+(M.length:Int):=by omega
    go_wp2
    go_ret2
    exact⟨by rw[HL2.1];rfl,HB3.1⟩
   ·have hl2:=Ib.1;rw[ah h63] at hl2;have HL2:=jP hl2;clear hl2;have hcv:=Bg mX.1;have IP:¬((63:Int)<4+(M.length:Int)):=by omega
    go_wp2
    go_ret2
    exact⟨by rw[HL2.1];rfl,HB3.1⟩
  ·have hl1:=RU.1 he;generalize (Pn.nV l).1=M at *;generalize (Pn.nV l).2=er at *;have Ib:=jP hl1;have hne:(er != 0)=true:=by simpa using he
   clear hl1 RU HLP he;go_wp2
   go_ret2
   exact⟨by rw[Ib.1];rfl,HB.1⟩
 ·have hl1:=Al.UM H0.1 ha;have hbd:∀ c∈l,0<=c/\c<=127:=by
   intro c hc;have:=b_.1 ha c hc;simpa using this
  have xH:=jP hbd;have Ib:=jP hl1;rw[ha] at hac;have SA:=jP hac;clear hac ha hl1 hbd;go_enter Tryz.func122,Tryz.ntmps122
  go_wp2_with fail
  refine SA.1.mono ?_;rintro e w1 ⟨rfl,hw1⟩;subst hw1;go_wp2_with fail
  go_loopw [4,16] (fun vo vi wr=>∃ (k:Nat) (A:Option Addr) (c:Nat),k<=l.length/\vi=.int .i64 k/\vo=.slice A k c/\wr.ownsRow w.heap.size 5 1 (.slice A k c) k (mW ((l.map Pn.byte).take k))/\Below w.heap.size w wr) (fun _ vi _=>l.length-(intOf vi).toNat)
  case atStart=>exact⟨0,none,0,by omega,rfl,rfl,aH _ _ _ _,ai _ _⟩
  case round=>
   obtain⟨k,A2,c2,hk,rfl,rfl,ho,hb⟩:=hrel;have HO:=jP ho;have HB:=jP hb;have hsw:=hb.size;clear ho hb;by_cases hlt:k<l.length
   ·obtain⟨b,off,cc,rfl,hb,hat,hcell⟩:=jZ (HR.1.below (HB.1.mono hBw)) hlt;obtain⟨g0,g1⟩:=xH.1 cc (ay hat);have hbn:=Pn.wR cc g0 (by omega);have hmp:(l.map Pn.byte).take (k+1)=(l.map Pn.byte).take k++[Pn.byte cc]:=by
     obtain⟨q1,q2⟩:=ak.1 hat;rw[az (by rw[bH];exact q1),List.getElem_map,q2]
    have Ik:=jP hbn;have HMP:=jP hmp;clear hbn hmp hat;go_wp2_with (at_builtin;refine rG (by rfl) _ _ rfl (base:=w.heap.size) rfl (HO.1.alloc _) rfl (zU (z:=wr.heap.size) rfl Ik.1) (by omega) (by simp<;>omega) ?_)
    intro A4 c4 w4 kQ hg4 hc4;have HP:=jP (own_below HO.1 HB.1 _ hg4 hsw);have lC:=jP (show w4.ownsRow w.heap.size 5 1 (.slice A4 (k+1) c4) (k+1) (mW ((l.map Pn.byte).take (k+1))) by rw[HMP.1];exact kQ);clear kQ hg4 hc4;go_wp2
    go_roundw
    case rel=>exact⟨k+1,A4,c4,by omega,by go_num,rfl,lC.1,HP.1⟩
    case measure=>simp[intOf];omega
   ·have hkl:k=l.length:=by omega
    have htk:(l.map Pn.byte).take k=l.map Pn.byte:=aP (by rw[bH];omega);have ho:=HO.1;rw[htk] at ho;subst hkl;have hcv:=Bg ho;clear ho htk;by_cases h63:63<l.length
    ·have hl2:=Ib.1;rw[aj h63] at hl2;have HL2:=jP hl2;clear hl2;have IP:(63:Int)<(l.length:Int):=by omega
     go_wp2
     go_ret2
     exact⟨by rw[HL2.1];rfl,HB.1⟩
    ·have hl2:=Ib.1;rw[ah h63] at hl2;have HL2:=jP hl2;clear hl2;have IP:¬((63:Int)<(l.length:Int)):=by omega
     go_wp2
     go_ret2
     exact⟨by rw[HL2.1];rfl,HB.1⟩
theorem aam {L:List UInt8}{k:Nat}{b:UInt8}(h:L[k]?=some b)(hb:¬b.toNat<128):Pn.ascii L=false:=by
 have hk:=(ak.1 h).1;have:=yV (n:=L.length) h hk hb;rwa [gJ] at this
theorem agc {M N:List UInt8}(h:M≠N):str M≠str N:=by
 intro e;apply h;have:=aV lst e;rwa [oh,oh] at this
theorem ae1 (s:ByteArray)(hs:s.size<=1000000)(w:World):Calls Tryz.prog 143 #[.string s] w (sJ (Al.pts (lst s)) w):=by
 by_cases h0:s.size=0
 ·have he:s.toList.isEmpty=true:=by rw[size_empty];simpa using h0
  have hp:Al.pts (lst s)=([],10):=by unfold Al.pts;rw[aj (by rw[jV];exact h0)]
  have HP:=jP hp;clear hp;go_enter Tryz.func143,Tryz.ntmps143
  go_wp2
  go_ret2
  exact sJ.bad HP.1 (ai _ _)
 have he:s.toList.isEmpty=false:=by rw[size_empty];simpa using h0
 have hp:Al.pts (lst s)=if Pn.ascii (lst s) then (if 63<(lst s).length then ([],11) else if Al.wW (lst s) then
  (if (Pn.oL (Al.low ((lst s).drop 4))).2=0 then (if Al.ascii (Pn.oL (Al.low ((lst s).drop 4))).1 then ([],12) else if (Al.lab (Pn.oL (Al.low ((lst s).drop 4))).1).2=0/\(Al.lab (Pn.oL (Al.low ((lst s).drop 4))).1).1=Al.low (lst s) then ((Pn.oL (Al.low ((lst s).drop 4))).1,0) else ([],12))
   else ([],(Pn.oL (Al.low ((lst s).drop 4))).2)) else (Pn.nums (lst s),0)) else ([],12):=by
  conv=>lhs;unfold Al.pts
  rw[ah (by rw[jV];exact h0)]
 have HP:=jP hp;clear hp;obtain⟨cc,w2,hcv,uu,hsz2,hcc,hcells,hfz⟩:=uw s w;have NV:=jP hcells;have HB2:=jP uu;clear hcells uu hfz;have hlow1:=fun w=>EY s (by unfold maxLen;omega) w;have HLW:=jP hlow1;clear hlow1;have his:=fun w=>Zi s (by unfold maxLen;omega) w;have HIS:=jP his;clear his;go_enter Tryz.func143,Tryz.ntmps143
 go_wp2_with fail
 clear hcv;go_loopw [4,15] (fun vo vi wr=>∃ (j:Nat) (A:Option Addr) (c:Nat),j<=s.size/\vi=.int .i64 j/\vo=.slice A j c/\wr.ownsRow w2.heap.size 3 1 (.slice A j c) j (ints (Pn.nums ((lst s).take j)))/\Below w2.heap.size w2 wr/\Pn.ascii ((lst s).take j)=true) (fun _ vi _=>s.size-(intOf vi).toNat)
 case atStart=>exact⟨0,none,0,by omega,rfl,rfl,aH _ _ _ _,ai _ _,rfl⟩
 case round=>
  obtain⟨j,A,c,hj,rfl,rfl,ho,hb,ha⟩:=hrel;have HO:=jP ho;have HB:=jP hb;have HA:=jP ha;have hsw:=hb.size;clear ho hb ha;by_cases hlt:j<s.size
  ·have hbj:=wH s j hlt;generalize s[j]=b at *;have hcell2:wr.cell? ⟨w.heap.size,j,none⟩=some (.int .u8 (b.toNat:Int)):=(HB.1.cell (p:=⟨w.heap.size,j,none⟩) hsz2).trans (NV.1 j b hbj);have Sr:=jP hbj;clear hbj;have hb256:=b.toNat_lt;have hji:(j:Int)<(s.size:Int):=by omega
   by_cases JO:b.toNat<128
   ·have hb1:(b.toNat:Int)<=127:=by omega
    have hn:=MO Sr.1;have ha2:=J_ Sr.1;rw[HA.1,bT JO] at ha2;have HN:=jP hn;have HA2:=jP (show Pn.ascii ((lst s).take (j+1))=true from ha2);have alY:(0:Int)<=(b.toNat:Int):=by omega
    clear hn ha2;generalize (b.toNat:Int)=bi at *;go_wp2_with (at_builtin;refine kW (by rfl) _ _ rfl (base:=w2.heap.size) rfl (HO.1.alloc _) rfl (kG (z:=wr.heap.size) rfl bi) (by omega) (by simp<;>omega) ?_)
    intro A4 c4 w4 kQ hg4 hc4;have xE:=jP (own_below HO.1 HB.1 _ hg4 hsw);have lC:=jP (show w4.ownsRow w2.heap.size 3 1 (.slice A4 (j+1) c4) (j+1) (ints (Pn.nums ((lst s).take (j+1)))) by rw[HN.1];exact kQ);clear kQ hg4 hc4;go_wp2
    go_roundw
    case rel=>exact⟨j+1,A4,c4,by omega,by go_num,rfl,lC.1,xE.1,HA2.1⟩
    case measure=>simp[intOf];omega
   ·have hb1:(127:Int)<(b.toNat:Int):=by omega
    have hab:=aam Sr.1 JO;have hdd:=HP.1;rw[hab] at hdd;have Ih:=jP (show Al.pts (lst s)=([],12) from hdd);clear hab hdd;generalize (b.toNat:Int)=bi at *;go_wp2
    go_ret2
    exact sJ.bad Ih.1 (HB2.1.trans (HB.1.mono (by omega)))
  ·have hjK:j=s.size:=by omega
   subst hjK;have htk:(lst s).take s.size=lst s:=aP (by rw[jV];exact ag _);have ho:=HO.1;have ha:=HA.1;have hpp:=HP.1;rw[htk] at ho ha;rw[ha,aj rfl,jV] at hpp;have Dx:=jP hpp;have oJ:=jP (HB2.1.trans (HB.1.mono (by omega)));have HOW:=jP (lH ho (show w.heap.size<=w2.heap.size by omega));clear ho ha hpp htk HO HA HP HB hlt hj NV HB2;by_cases h63:63<s.size
   ·have hpp:=Dx.1;rw[aj h63] at hpp;have Ih:=jP hpp;clear hpp;have IP:(63:Int)<(s.size:Int):=by omega
    go_wp2
    go_ret2
    exact sJ.bad Ih.1 oJ.1
   ·have hpp:=Dx.1;rw[ah h63] at hpp;have Kv:=jP hpp;clear hpp;have IP:(s.size:Int)<=63:=by omega
    have apk:s.size<=63:=by omega
    clear h63;go_wp2_with fail
    refine (HIS.1 _).mono ?_;rintro e w3 ⟨rfl,hb3⟩;have hsz3:=hb3.size;replace oJ:=jP (oJ.1.trans (hb3.mono (by omega)));replace HOW:=jP (HOW.1.kept (vS (qm wr none) hb3) (by cases (Value.slice A s.size c).ownBlock<;>simp));clear hb3;have hpp:=Kv.1;clear Kv;cases hix:Al.wW (lst s)
    ·rw[hix] at hpp;have Ih:=jP (show Al.pts (lst s)=(Pn.nums (lst s),0) from hpp);clear hpp hix;have hnl:(Pn.nums (lst s)).length=s.size:=by rw[Pz,jV]
     have Bv:=jP hnl;clear hnl;go_wp2
     go_ret2
     rw[Ih.1];exact⟨A,c,by rw[Bv.1];rfl,by rw[Bv.1];exact HOW.1,oJ.1⟩
    ·rw[hix,aj rfl] at hpp;have h4:4<=s.size:=by
      unfold Al.wW at hix;rw[Bool.and_eq_true] at hix;have:=gm hix.1;rw[jV] at this;exact this
     have hex:=extract_drop s 4 h4;have Xb:=fun w=>EY (s.extract 4 s.size) (by rw[hex,lT,bF,jV];unfold maxLen;omega) w;rw[hex,oh] at Xb;rw[<-hex] at Xb;have hld:(Al.low ((lst s).drop 4)).length<=1000000:=by rw[Al.Dj,bF,jV];omega
     have Eu:=jP Xb;have Ih:=jP hpp;have HQL:=jP (show (Al.low ((lst s).drop 4)).length<=2048 by rw[Al.Dj,bF,jV];omega);clear Xb hpp hix hex Dx HOW;have Hl:(4:Int)<=(s.size:Int):=by omega
     generalize Al.low ((lst s).drop 4)=Q at *;go_wp2_with fail
     refine (Eu.1 _).mono ?_;rintro e w4 ⟨rfl,hb4⟩;have acd:=hb4.size;replace oJ:=jP (oJ.1.trans (hb4.mono (by omega)));clear hb4;have hdc:=decode_any (str Q) (by rw[lT];omega) w4;rw[oh] at hdc;have Ew:=jP hdc;clear hdc;obtain⟨p,er,hd⟩:∃ p er,Pn.oL Q=(p,er):=⟨_,_,rfl⟩;have hdd:=Ih.1;have hdc:=Ew.1;have hall:=Pn.QH Q (by have:=HQL.1;omega);rw[hd] at hdd hdc hall;have hpl:p.length<=4096:=by
      rcases hall with ⟨_,h⟩ | ⟨h,_⟩
      ·exact h
      ·have h':p=[]:=h;rw[h'];simp
     have XF:=jP hdd;have amo:=jP hdc;clear hdd hdc hall hd Ih Ew;go_wp2_with fail
     refine amo.1.mono ?_;rintro e w5 ⟨A5,c5,rfl,oK,hb5⟩;have hsz5:=hb5.size;have v_:=jP (Rd.kX oK);have lD:=jP (lH oK (show w.heap.size<=w4.heap.size by have:=oJ.1.size;omega));replace oJ:=jP (oJ.1.trans (hb5.mono (by have:=oJ.1.size;omega)));clear oK hb5;by_cases her:er=0
     ·subst her;have hd1:=XF.1;rw[aj rfl] at hd1;have HD1:=jP hd1;clear hd1 XF;have hac:=FI A5 c5 p w5.heap.size w5 v_.1 (by omega);cases hasc:Al.ascii p
      ·have hd2:=HD1.1;rw[hasc,ah (by simp)] at hd2;rw[hasc] at hac;have HD2:=jP hd2;have SA:=jP hac;clear hd2 hac hasc HD1;go_wp2_with fail
       refine SA.1.mono ?_;rintro e w6 ⟨rfl,hw6⟩;subst hw6;have hlb:=MR A5 c5 p w5.heap.size w5 v_.1 (ag _) (by omega);obtain⟨M,f,hm⟩:∃ M f,Al.lab p=(M,f):=⟨_,_,rfl⟩;have hd3:=HD2.1;rw[hm] at hlb hd3;have RU:=jP hlb;have HD3:=jP hd3;clear hlb hd3 hm HD2;go_wp2_with fail
       refine RU.1.mono ?_;rintro e w7 ⟨rfl,hb7⟩;have alx:=hb7.size;have mD:=jP (lD.1.kept (vS (qm w5 none) hb7) (by cases (Value.slice A5 p.length c5).ownBlock<;>simp));replace oJ:=jP (oJ.1.trans (hb7.mono (by have:=oJ.1.size;omega)));clear hb7 lD v_;by_cases hf:f=0
       ·subst hf;generalize hN:Al.low (lst s)=N at *;have hd4:=HD3.1;by_cases hMN:M=N
        ·subst hMN;rw[aj ⟨rfl,rfl⟩] at hd4;have HD4:=jP hd4;clear hd4 HD3;go_wp2_with fail
         refine (HLW.1 _).mono ?_;rintro e w8 ⟨rfl,hb8⟩;have Dz:=jP (mD.1.kept (vS (qm w7 none) hb8) (by cases (Value.slice A5 p.length c5).ownBlock<;>simp));have qM:=jP (oJ.1.trans (hb8.mono (by have:=oJ.1.size;omega)));clear hb8;go_wp2
         go_ret2
         rw[HD4.1];exact⟨A5,c5,rfl,Dz.1,qM.1⟩
        ·rw[ah (fun h=>hMN h.2)] at hd4;have HD4:=jP hd4;clear hd4 HD3;have apj:=agc hMN;go_wp2_with fail
         refine (HLW.1 _).mono ?_;rintro e w8 ⟨rfl,hb8⟩;have qM:=jP (oJ.1.trans (hb8.mono (by have:=oJ.1.size;omega)));clear hb8;have hbs:((str M).toList==(str N).toList)=false:=by
          rw[aX];intro e;rw[eY,eY] at e;exact hMN e
         go_wp2
         go_ret2
         exact sJ.bad HD4.1 qM.1
       ·have hd4:=HD3.1;rw[ah (fun h=>hf h.1)] at hd4;have HD4:=jP hd4;clear hd4 HD3;have hfb:(f != 0)=true:=by simpa using hf
        clear hf;go_wp2
        go_ret2
        exact sJ.bad HD4.1 oJ.1
      ·have hd2:=HD1.1;rw[hasc,aj rfl] at hd2;rw[hasc] at hac;have HD2:=jP hd2;have SA:=jP hac;clear hd2 hac hasc HD1;go_wp2_with fail
       refine SA.1.mono ?_;rintro e w6 ⟨rfl,hw6⟩;subst hw6;go_wp2
       go_ret2
       exact sJ.bad HD2.1 oJ.1
     ·have hd1:=XF.1;rw[ah her] at hd1;have HD1:=jP hd1;have heb:(er != 0)=true:=by simpa using her
      clear hd1 XF her;go_wp2
      go_ret2
      exact sJ.bad HD1.1 oJ.1
end Go.Proofs.YtkachcflifhgiaaGreatDoor
