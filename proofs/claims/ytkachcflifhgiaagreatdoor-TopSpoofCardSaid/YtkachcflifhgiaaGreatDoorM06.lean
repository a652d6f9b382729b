/-      -/
import Derived.Test.YtkachcflifhgiaaGreatDoorAppCoreZ
import Derived.Test.YtkachcflifhgiaaGreatDoorRqFZ
import Derived.Test.YtkachcflifhgiaaGreatDoorM03
import Derived.Test.YtkachcflifhgiaaGreatDoorM04
import Derived.Deep.RegionWith
import Derived.Test.YtkachcflifhgiaaGreatDoorM01
set_option linter.unusedVariables false
set_option maxRecDepth 100000
set_option maxHeartbeats 16000000
namespace Go.Proofs.YtkachcflifhgiaaGreatDoor
open Go Go.RowKit
def str (s:List UInt8):ByteArray:=⟨s.toArray⟩
def lst (s:ByteArray):List UInt8:=s.data.toList
theorem uF (s:ByteArray):str (lst s)=s:=by cases s;rfl
theorem oh (l:List UInt8):lst (str l)=l:=rfl
theorem jV (s:ByteArray):(lst s).length=s.size:=rfl
theorem lT (l:List UInt8):(str l).size=l.length:=rfl
theorem wH (s:ByteArray)(j:Nat)(h:j<s.size):(lst s)[j]?=some s[j]:=by
 unfold lst;rw[jB,fH (show j<s.data.size from h)];rfl
theorem x_ (s:ByteArray)(j:Nat)(h:j<s.size):(lst s).drop j=s[j]::(lst s).drop (j+1):=by
 have h1:=wH s j h;obtain⟨h2,h3⟩:=ak.1 h1;rw[bP h2,h3]
theorem extract_drop (s:ByteArray)(k:Nat)(h:k<=s.size):s.extract k s.size=str ((lst s).drop k):=by
 apply ByteArray.ext;rw[ByteArray.data_extract];apply Array.toList_inj.1;rw[Array.toList_extract];show (s.data.toList.drop k).take (s.size-k)=s.data.toList.drop k;apply aP;rw[bF];exact ag _
theorem Bc (s:ByteArray)(k:Nat)(h:k<=s.size):s.extract 0 k=str ((lst s).take k):=by
 apply ByteArray.ext;rw[ByteArray.data_extract];apply Array.toList_inj.1;rw[Array.toList_extract];show (s.data.toList.drop 0).take (k-0)=s.data.toList.take k;rfl
def mW (s:List UInt8):List Value:=s.map (fun b=>Value.int .u8 (b.toNat:Int))
theorem qY (s:List UInt8):(mW s).length=s.length:=by simp[mW]
theorem Ef (s r:List UInt8):mW (s++r)=mW s++mW r:=by simp[mW]
theorem ahW (s:List UInt8)(k:Nat):(mW s)[k]?=(s[k]?).map (fun b=>Value.int .u8 (b.toNat:Int)):=by simp[mW]
theorem Ve (s:List UInt8):∀ u∈mW s,u.oneCell'=true:=by
 intro u hu;obtain⟨b,_,rfl⟩:=List.mem_map.1 hu;rfl
theorem Ll:(Tryz.prog.info? 5).map (fun i=>(i.zero,i.size,i.bytes))=some (some (.int .u8 0),1,1):=by kernel_rfl
theorem yM {w:World}{z:Nat}(hz:w.heap.size=z)(b:UInt8):Rd (w.alloc (.cells #[.int .u8 (b.toNat:Int)] 5)) (z+1) 1 (some ⟨z,0,none⟩) 1 (mW [b]):=by
 subst hz;refine⟨rfl,fun _=>⟨w.heap.size,0,rfl,by omega,fun j u hu=>?_⟩⟩;rw[(Bk.new w 5 _).cell,Nat.zero_add];simpa[mW] using hu
theorem rG {w:World}{ops:Array Oper}{rest:List Oper}{o:Oper}{a:Act}{Q:Exit->Act->World->Prop}(hw:Region.wanted o (yielded ops a.tmps)=true)(s x:Operand)
  (ho:o.op=.call { callee:=.builtin .append,args:=#[s,x],argTypes:=#[177,177] })
  {base:Nat} {v:Value} {n:Nat} {xs:List UInt8} (hs:a.eval s=v) (hown:w.ownsRow base 5 1 v n (mW xs))
  {B:Nat} {A:Option Addr} {m c:Nat} {ys:List UInt8} (hx:a.eval x=.slice A m c) (hr:Rd w B 1 A m (mW ys))
  (hlen:n+m<=140737488355328) (hbase:base<=w.heap.size)
  (h:∀ A' c' w',w'.ownsRow base 5 1 (.slice A' (n+m) c') (n+m) (mW (xs++ys))->w.grownBy w' v.ownBlock ->
   ((Value.slice A' (n+m) c').ownBlock=v.ownBlock\/(Value.slice A' (n+m) c').ownBlock=some w.heap.size)->wpList Tryz.prog ops Q rest (a.put o.dst (.slice A' (n+m) c')) w') :
  wpList Tryz.prog ops Q (o::rest) a w:=by
 obtain⟨i0,hi,hz0,hz1,hz2⟩:=dR Ll;refine rV hw s x _ ho base _ i0 (.int .u8 0) 1 1 dI hi hz0 hz1 hz2 rfl (by decide) v n (mW xs) hs hown B A m c (mW ys) hx hr (Ve ys)
  (by unfold maxLen;omega) (by omega) hbase ?_
 intro v' w' h2 h3 h4;obtain⟨A',c',rfl⟩:=o7 h2;rw[<-Ef] at h2;exact h A' c' w' h2 h3 h4
theorem Bg {w:World}{base:Nat}{A:Option Addr}{n c:Nat}{s:List UInt8}(h:w.ownsRow base 5 1 (.slice A n c) n (mW s)) :
  (convert 177 9 (.slice A n c)).run Tryz.prog w=.ok (.string (str s)) w:=by
 have hl:s.length=n:=by have:=h.1;rw[qY] at this;omega
 rcases h.2 with ⟨hv,h0⟩ | ⟨g,cap,cur,hv,_,hh,hnc,_⟩
 ·injection hv with e1 e2 e3
  subst e1;subst e3;subst h0;have:s=[]:=bu hl;subst this;rw[run_convert_bytes_string w _ _ _ none 0 0 dI dO dW];rfl
 ·injection hv with e1 e2 e3
  subst e1;subst e3;subst hl;exact run_convert_bytes_back w _ _ _ ⟨g,0,none⟩ c s dI dO dW (fun j hj=>by
   have:=h.cells (g:=g) rfl j (.int .u8 (s[j].toNat:Int)) (by rw[ahW,au hj];rfl);exact this)
theorem zU {w:World}{z:Nat}(hz:w.heap.size=z){b:UInt8}{x:Int}(hx:(b.toNat:Int)=x):Rd (w.alloc (.cells #[.int .u8 x] 5)) (z+1) 1 (some ⟨z,0,none⟩) 1 (mW [b]):=by
 subst hx;exact yM hz b
theorem own_below {w w':World}{base:Nat}{e:TypeId}{v:Value}{n:Nat}{xs:List Value}{W:World}(ho:w.ownsRow base e 1 v n xs)(hb:Below base W w)(o:Obj)(hg:(w.alloc o).grownBy w' v.ownBlock)(hbw:base<=w.heap.size):Below base W w':=
 (hb.alloc hbw o).grown hg (by simp;omega) (fun q h=>(ho.lt q h).1)
theorem lH {w:World}{base base':Nat}{e:TypeId}{size n:Nat}{v:Value}{xs:List Value}(h:w.ownsRow base e size v n xs)(hb:base'<=base):w.ownsRow base' e size v n xs:=by
 refine⟨h.1,?_⟩;rcases h.2 with h2 | ⟨g,cap,cur,h1,h2,h3⟩
 ·exact .inl h2
 ·exact .inr ⟨g,cap,cur,h1,by omega,h3⟩
theorem uw (s:ByteArray)(w:World):∃ (c:Nat) (w1:World),(convert 9 177 (.string s)).run Tryz.prog w=.ok (.slice (some ⟨w.heap.size,0,none⟩) s.size c) w1/\Below w.heap.size w w1/\w.heap.size<w1.heap.size/\s.size<=c /\
  (∀ j b,(lst s)[j]?=some b->w1.cell? ⟨w.heap.size,j,none⟩=some (.int .u8 (b.toNat:Int)))/\(∀ j,j<s.size->w1.frozen? ⟨w.heap.size,j,none⟩=false):=by
 refine⟨_,_,run_bytes_of_string w 9 177 5 s dW dI dO,((ai _ w).drew).alloc (ag _) _,by simp,?_,fun j b hj=>?_,fun j hj=>?_⟩
 ·exact grownCap_ge w s.size 0 _
 ·have hjs:j<s.size:=by rw[<-jV];exact (ak.1 hj).1
  rw[wH s j hjs] at hj;injection hj with hj;subst hj
  exact (World.cell?_alloc_mark w.drew _ _ _ j).trans (bytesRow_at s _ j hjs)
 ·unfold World.frozen?;rw[show (w.drew.alloc _).heap[w.heap.size]?=_ from gK w.drew _];have hsz:j<(bytesRow s (grownCap w s.size 0 5)).size:=by
   unfold bytesRow;simp only[Array.size_append,Array.size_map];have:s.size=s.data.size:=rfl;omega
  simp;omega
theorem size_empty (s:ByteArray):s.toList.isEmpty=decide (s.size=0):=by
 rw[eY];rcases s with ⟨d⟩
 by_cases h:d.size=0
 ·have:d=#[]:=Array.eq_empty_of_size_eq_zero h;subst this;rfl
 ·have h2:¬d.toList=[]:=by intro e;apply h;rw[<-jd,e];rfl
  have h3:ByteArray.size ⟨d⟩≠0:=h;simp[h3];intro e;apply h;rw[e];rfl
theorem X5 {L:List UInt8}(h:L≠[]):(str L).toList.isEmpty=false:=by
 rw[size_empty,lT];exact bD (fun e=>h (bu e))
theorem LW (b off i:Nat):(⟨b,off,none⟩:Addr).add i=⟨b,off+i,none⟩:=by unfold Addr.add;split<;>simp_all
theorem Qc:(Tryz.prog.info? 9).map (fun i=>(i.zero,i.size,i.bytes))=some (some (.string ByteArray.empty),1,16):=by kernel_rfl
theorem aa1 (l:List ByteArray):∀ u∈strs l,u.oneCell'=true:=by
 intro u hu;unfold strs at hu;obtain⟨x,_,rfl⟩:=List.mem_map.1 hu;rfl
theorem GX {w:World}(ty:TypeId){base:Nat}{v:Value}{n:Nat}{xs:List ByteArray}(hown:w.ownsRow base 9 1 v n (strs xs))
  {B:Nat} {A:Option Addr} {m c:Nat} {ys:List ByteArray} (hr:Rd w B 1 A m (strs ys)) (hlen:n+m<=8796093022208) (hbase:base<=w.heap.size) :
  ∃ A' c' w',(Builtin.append_ #[46,46] ty #[v,.slice A m c]).run Tryz.prog w=.ok (.slice A' (n+m) c') w'/\w'.ownsRow base 9 1 (.slice A' (n+m) c') (n+m) (strs (xs++ys)) /\
   w.grownBy w' v.ownBlock/\((Value.slice A' (n+m) c').ownBlock=v.ownBlock\/(Value.slice A' (n+m) c').ownBlock=some w.heap.size):=by
 obtain⟨i0,hi,hz0,hz1,hz2⟩:=dR Qc;obtain⟨v',w',h1,h2,h3,h4⟩:=wU (P:=Tryz.prog) base 46 ty 9 i0 (.string ByteArray.empty) 1 16 Tryz.underlying46 hi hz0 hz1 hz2 rfl (by decide) v n (strs xs) hown B A m c (strs ys) hr (aa1 ys)
  (by unfold maxLen;omega) (by omega) hbase
 obtain⟨A',c',rfl⟩:=o7 h2;rw[<-SK] at h2;exact⟨A',c',w',h1,h2,h3,h4⟩
theorem Dq {w:World}{ops:Array Oper}{rest:List Oper}{o:Oper}{a:Act}{Q:Exit->Act->World->Prop}(hw:Region.wanted o (yielded ops a.tmps)=true)(s x:Operand)
  (ho:o.op=.call { callee:=.builtin .append,args:=#[s,x],argTypes:=#[46,46] })
  {base:Nat} {v:Value} {n:Nat} {xs:List ByteArray} (hs:a.eval s=v) (hown:w.ownsRow base 9 1 v n (strs xs))
  {B:Nat} {A:Option Addr} {m c:Nat} {ys:List ByteArray} (hx:a.eval x=.slice A m c) (hr:Rd w B 1 A m (strs ys))
  (hlen:n+m<=8796093022208) (hbase:base<=w.heap.size)
  (h:∀ A' c' w',w'.ownsRow base 9 1 (.slice A' (n+m) c') (n+m) (strs (xs++ys))->w.grownBy w' v.ownBlock ->
   ((Value.slice A' (n+m) c').ownBlock=v.ownBlock\/(Value.slice A' (n+m) c').ownBlock=some w.heap.size)->wpList Tryz.prog ops Q rest (a.put o.dst (.slice A' (n+m) c')) w') :
  wpList Tryz.prog ops Q (o::rest) a w:=by
 obtain⟨A',c',w',h1,h2,h3,h4⟩:=GX o.type hown (c:=c) hr hlen hbase;refine wpList_step fun K hK=>?_;rw[aj hw];unfold Oper.wp execOp;simp only[ho,resolve,invoke,builtin,jM,Sem.run_pure,jy,jE,fF,List.map_nil,hs,hx,h1];exact hK _ _ (h A' c' w' h2 h3 h4)
theorem qi (w:World)(x:ByteArray):Rd (w.alloc (.cells #[.string x] 9)) (w.heap.size+1) 1 (some ⟨w.heap.size,0,none⟩) 1 (strs [x]):=by
 have:=Rd.kX (rZ w 0 9 #[.string x] 1 rfl (by decide) (iY _));simpa[strs] using this
theorem jZ {w:World}{B n:Nat}{A:Option Addr}{xs:List Int}(h:Rd w B 1 A n (ints xs)){k:Nat}(hk:k<n) :
  ∃ b off c,A=some ⟨b,off,none⟩/\b<B/\xs[k]?=some c/\w.cell? ⟨b,off+k,none⟩=some (.int .i64 c):=by
 obtain⟨b,off,u,hA,hb,hu,hc⟩:=h.at_ hk;rw[ints_at] at hu;obtain⟨c,hc1,rfl⟩:=gB.1 hu;exact⟨b,off,c,hA,hb,hc1,hc⟩
theorem EH {w:World}{B n:Nat}{A:Option Addr}{xs:List ByteArray}(h:Rd w B 1 A n (strs xs)){k:Nat}(hk:k<n) :
  ∃ b off c,A=some ⟨b,off,none⟩/\b<B/\xs[k]?=some c/\w.cell? ⟨b,off+k,none⟩=some (.string c):=by
 obtain⟨b,off,u,hA,hb,hu,hc⟩:=h.at_ hk;rw[xQ] at hu;obtain⟨c,hc1,rfl⟩:=gB.1 hu;exact⟨b,off,c,hA,hb,hc1,hc⟩
theorem AP:(Tryz.prog.info? 3).map (fun i=>(i.zero,i.size,i.bytes))=some (some (.int .i64 0),1,8):=by kernel_rfl
theorem AL (xs:List Int):∀ u∈ints xs,u.oneCell'=true:=by
 intro u hu;unfold ints at hu;obtain⟨x,_,rfl⟩:=List.mem_map.1 hu;rfl
theorem kW {w:World}{ops:Array Oper}{rest:List Oper}{o:Oper}{a:Act}{Q:Exit->Act->World->Prop}(hw:Region.wanted o (yielded ops a.tmps)=true)(s x:Operand)
  (ho:o.op=.call { callee:=.builtin .append,args:=#[s,x],argTypes:=#[22,22] })
  {base:Nat} {v:Value} {n:Nat} {xs:List Int} (hs:a.eval s=v) (hown:w.ownsRow base 3 1 v n (ints xs))
  {B:Nat} {A:Option Addr} {m c:Nat} {ys:List Int} (hx:a.eval x=.slice A m c) (hr:Rd w B 1 A m (ints ys))
  (hlen:n+m<=17592186044416) (hbase:base<=w.heap.size)
  (h:∀ A' c' w',w'.ownsRow base 3 1 (.slice A' (n+m) c') (n+m) (ints (xs++ys))->w.grownBy w' v.ownBlock ->
   ((Value.slice A' (n+m) c').ownBlock=v.ownBlock\/(Value.slice A' (n+m) c').ownBlock=some w.heap.size)->wpList Tryz.prog ops Q rest (a.put o.dst (.slice A' (n+m) c')) w') :
  wpList Tryz.prog ops Q (o::rest) a w:=by
 obtain⟨i0,hi,hz0,hz1,hz2⟩:=dR AP;refine rV hw s x _ ho base _ i0 (.int .i64 0) 1 8 bC hi hz0 hz1 hz2 rfl (by decide) v n (ints xs) hs hown B A m c (ints ys) hx hr (AL ys)
  (by unfold maxLen;omega) (by omega) hbase ?_
 intro v' w' h2 h3 h4;obtain⟨A',c',rfl⟩:=o7 h2;rw[<-CU] at h2;exact h A' c' w' h2 h3 h4
theorem Yu (w:World)(x:Int):Rd (w.alloc (.cells #[.int .i64 x] 3)) (w.heap.size+1) 1 (some ⟨w.heap.size,0,none⟩) 1 (ints [x]):=by
 have:=Rd.kX (rZ w 0 3 #[.int .i64 x] 1 rfl (by decide) (iY _));simpa[ints] using this
theorem kG {w:World}{z:Nat}(hz:w.heap.size=z)(c:Int):Rd (w.alloc (.cells #[.int .i64 c] 3)) (z+1) 1 (some ⟨z,0,none⟩) 1 (ints [c]):=by
 subst hz;refine⟨rfl,fun _=>⟨w.heap.size,0,rfl,by omega,fun j u hu=>?_⟩⟩;rw[(Bk.new w 3 _).cell,Nat.zero_add];simpa[ints] using hu
def ad9 (base:Nat)(ys:List UInt8)(w:World)(e:Ending)(w':World):Prop:=
 ∃ A c,e=.returned (.slice A ys.length c)/\w'.ownsRow base 5 1 (.slice A ys.length c) ys.length (mW ys)/\Below base w w'
theorem put_any (A:Option Addr)(c:Nat)(s:List UInt8)(v b:Int)(base:Nat)(w:World)(ho:w.ownsRow base 5 1 (.slice A s.length c) s.length (mW s))(hbase:base<=w.heap.size)
  (v0:0<=v) (v1:v<=1099511627776) (b0:0<=b) (b1:b<=1000) (hl:s.length<=1000000) :
  Calls Tryz.prog 238 #[.slice A s.length c,.int .i64 v,.int .i64 b] w (ad9 base (s++(Pn.Bf v b).map Pn.pq) w):=by
 have HO:=jP ho;clear ho;obtain⟨V,rfl⟩:=fZ v0;have hd:=Pn.ahM (V:Int) b;have HD:=jP hd;clear hd;go_enter Tryz.func238,Tryz.ntmps238
 go_wp2_with fail
 go_loopw [0,1,7] (fun vo vv vj wr=>∃ (pre:List Int) (x j m:Nat) (A':Option Addr) (c':Nat),vo=.slice A' m c'/\vv=.int .i64 x/\vj=.int .i64 j/\j+x<=V/\m=s.length+j /\
   (s++pre.map Pn.pq).length=m/\Pn.Bf (V:Int) b=pre++Pn.CY (x:Int) (j:Int) b/\wr.ownsRow base 5 1 (.slice A' m c') m (mW (s++pre.map Pn.pq))/\Below base w wr) (fun _ vv _ _=>(intOf vv).toNat)
 case atStart=>exact⟨[],V,0,s.length,A,c,rfl,rfl,rfl,by omega,rfl,by simp,HD.1,by simpa using HO.1,ai _ _⟩
 case round=>
  obtain⟨pre,x,j,m,A',c',rfl,rfl,rfl,hjx,hm,hlen,hdig,ho,hbl⟩:=hrel;have Qg:base<=wr.heap.size:=by have:=hbl.size;omega
  have hmb:m<=2000000000000:=by omega
  have nT:=jP ho;have HB1:=jP hbl;have Ig:=jP hdig;have wC:=jP hlen;have HM:=jP hm;clear ho hbl hdig hlen HD HO hm;go_wp2_with fail
  refine (TY (j:Int) b (by omega) (by omega) b0 (by omega) _).mono ?_;rintro e w9 ⟨rfl,qP⟩;subst qP;have t0:=Pn.yG (j:Int) b;have t1:=Pn.yH (j:Int) b;have hlast:=Pn.Fq (x:Int) (j:Int) b;have hstep:=Pn.Nk (x:Int) (j:Int) b (by omega);have hslt:=Pn.Aa (x:Int) (Pn.lU (j:Int) b) (by omega) t0 t1;generalize Pn.lU (j:Int) b=t at *;by_cases hc:(x:Int)<t
  ·have hlast:=hlast hc;have Ia:=jP hlast;clear hlast hstep hslt;go_wp2_with fail
   refine (Nj x (by omega) _).mono ?_;rintro e w9 ⟨rfl,qP⟩;subst qP;go_wp2_with (at_builtin;refine rG (by rfl) _ _ rfl (base:=base) rfl (nT.1.alloc _) rfl (yM (z:=wr.heap.size) rfl (Pn.pq (x:Int))) (by omega) (by simp<;>omega) ?_)
   intro A4 c4 w4 kQ hg4 hc4;have HP:=jP (own_below nT.1 HB1.1 _ hg4 Qg);have hfin:s++(Pn.Bf (V:Int) b).map Pn.pq=s++(pre.map Pn.pq++[Pn.pq (x:Int)]):=by rw[Ig.1,Ia.1];simp
   have hfl:(s++(Pn.Bf (V:Int) b).map Pn.pq).length=m+1:=by rw[hfin,<-dQ,aA,wC.1];rfl
   have lC:=jP kQ;have HF:=jP hfin;have Ie:=jP hfl;clear kQ hg4 hc4 hfin hfl;go_wp2
   go_ret
   exact⟨A4,c4,by rw[Ie.1];rfl,by rw[Ie.1,HF.1];exact lC.1,HP.1⟩
  ·have hstep:=hstep hc;obtain⟨s0,s1⟩:=hslt hc;have hm0:=jm ((x:Int)-t) (show 36-t≠0 by omega);have hm1:=iG ((x:Int)-t) (show 0<36-t by omega);obtain⟨d,hd⟩:∃ d:Nat,t+((x:Int)-t)%(36-t)=(d:Int):=⟨(t+((x:Int)-t)%(36-t)).toNat,by omega⟩;obtain⟨y,hy⟩:∃ y:Nat,((x:Int)-t)/(36-t)=(y:Int):=⟨(((x:Int)-t)/(36-t)).toNat,by omega⟩;have alQ:d<36:=by omega
   have hyx:(y:Int)<(x:Int):=by omega
   rw[hd,hy] at hstep;have HST:=jP hstep;have HD2:=jP hd;have HY:=jP hy;clear hstep hd hy hlast hslt s0 s1;have ao2:¬36-t=0:=by omega
   have hxt:0<=(x:Int)-t:=by omega
   go_wp2_with fail
   rw[HD2.1];refine (Nj d alQ _).mono ?_;rintro e w9 ⟨rfl,qP⟩;subst qP;go_wp2_with (at_builtin;refine rG (by rfl) _ _ rfl (base:=base) rfl (nT.1.alloc _) rfl (yM (z:=wr.heap.size) rfl (Pn.pq (d:Int))) (by omega) (by simp<;>omega) ?_)
   intro A4 c4 w4 kQ hg4 hc4;have HP:=jP (own_below nT.1 HB1.1 _ hg4 Qg);have lC:=jP kQ;clear kQ hg4 hc4;have e1:s++(pre++[(d:Int)]).map Pn.pq=s++(pre.map Pn.pq++[Pn.pq (d:Int)]):=by simp
   have VB:=jP e1;clear e1;have hy':((x:Int)-t)/(36-t)=(y:Int):=HY.1;go_wp2
   try rw[hy']
   go_roundw
   case rel=>exact⟨pre++[(d:Int)],y,j+1,m+1,A4,c4,rfl,rfl,by go_num,by omega,by have:=HM.1;omega,by rw[VB.1,<-dQ,aA,wC.1];rfl,by rw[Ig.1,HST.1];simp,by rw[VB.1];exact lC.1,HP.1⟩
   case measure=>simp[intOf];omega
theorem OQ (c:Int):(c<0/\Pn.scalar c=false)\/(1114111<c/\0<=c/\Pn.scalar c=false)\/(0<=c/\c<55296/\Pn.scalar c=true)\/(55296<=c/\c<=57343/\Pn.scalar c=false)\/(57343<c/\c<=1114111/\Pn.scalar c=true):=by
 unfold Pn.scalar;by_cases h1:c<0
 ·exact .inl ⟨h1,by simp;omega⟩
 by_cases h2:1114111<c
 ·exact .inr (.inl ⟨h2,by omega,by simp;omega⟩)
 by_cases h3:c<55296
 ·exact .inr (.inr (.inl ⟨by omega,h3,by simp;omega⟩))
 by_cases h4:c<=57343
 ·exact .inr (.inr (.inr (.inl ⟨by omega,h4,by simp;omega⟩)))
 ·exact .inr (.inr (.inr (.inr ⟨by omega,by omega,by simp;omega⟩)))
theorem SC (c:Int)(w:World):Calls Tryz.prog 125 #[.int .i64 c] w fun e w'=>e=.returned (.bool (Pn.scalar c))/\w=w':=by
 rcases OQ c with ⟨h1,h⟩ | ⟨h1,h2,h⟩ | ⟨h1,h2,h⟩ | ⟨h1,h2,h⟩ | ⟨h1,h2,h⟩
 all_goals
  rw[h];clear h;go_enter Tryz.func125,Tryz.ntmps125
  go_wp2
  go_ret
  first
   | exact⟨rfl,rfl⟩
   | exact⟨by simp;omega,rfl⟩
def Pn.len (c:Int):Int:=if Pn.scalar c then (if c<=127 then 1 else if c<=2047 then 2 else if c<=65535 then 3 else 4) else 0
theorem Pn.P5 (c:Int):(Pn.len c==0)=!Pn.scalar c:=by
 unfold Pn.len;cases Pn.scalar c
 ·rfl
 ·simp only[if_true,Bool.not_true];split
  ·rfl
  ·split
   ·rfl
   ·split<;>rfl
theorem JE (c:Int)(w:World):Calls Tryz.prog 180 #[.int .i64 c] w fun e w'=>e=.returned (.int .i64 (Pn.len c))/\w=w':=by
 have hl:Pn.len c=if Pn.scalar c then (if c<=127 then 1 else if c<=2047 then 2 else if c<=65535 then 3 else 4) else 0:=rfl
 have hs:=SC c w;cases hb:Pn.scalar c
 ·rw[hb] at hl hs;have wC:=jP (show Pn.len c=0 from hl);clear hl hb;have HS:=jP hs;clear hs;go_enter Tryz.func180,jf
  go_wp2_with fail
  refine HS.1.mono ?_;rintro e w1 ⟨rfl,hw⟩;subst hw;go_wp2
  go_ret
  exact⟨by rw[wC.1];rfl,rfl⟩
 ·rw[hb] at hl hs;have wC:=jP (show Pn.len c=(if c<=127 then 1 else if c<=2047 then 2 else if c<=65535 then 3 else 4) from hl);clear hl hb;have HS:=jP hs;clear hs;by_cases h1:c<=127
  ·have HL:=jP (show Pn.len c=1 by rw[wC.1,aj h1]);clear wC;go_enter Tryz.func180,jf
   go_wp2_with fail
   refine HS.1.mono ?_;rintro e w1 ⟨rfl,hw⟩;subst hw;go_wp2
   go_ret
   exact⟨by rw[HL.1];rfl,rfl⟩
  by_cases h2:c<=2047
  ·have HL:=jP (show Pn.len c=2 by rw[wC.1,ah h1,aj h2]);clear wC;go_enter Tryz.func180,jf
   go_wp2_with fail
   refine HS.1.mono ?_;rintro e w1 ⟨rfl,hw⟩;subst hw;go_wp2
   go_ret
   exact⟨by rw[HL.1];rfl,rfl⟩
  by_cases h3:c<=65535
  ·have HL:=jP (show Pn.len c=3 by rw[wC.1,ah h1,ah h2,aj h3]);clear wC;go_enter Tryz.func180,jf
   go_wp2_with fail
   refine HS.1.mono ?_;rintro e w1 ⟨rfl,hw⟩;subst hw;go_wp2
   go_ret
   exact⟨by rw[HL.1];rfl,rfl⟩
  ·have HL:=jP (show Pn.len c=4 by rw[wC.1,ah h1,ah h2,ah h3]);clear wC;go_enter Tryz.func180,jf
   go_wp2_with fail
   refine HS.1.mono ?_;rintro e w1 ⟨rfl,hw⟩;subst hw;go_wp2
   go_ret
   exact⟨by rw[HL.1];rfl,rfl⟩
def xJ (w:World)(B:Nat)(A:Option Addr)(lX:List (List Int)):Prop:=
 ∃ vs:List Value,Rd w B 1 A lX.length vs/\∀ (i:Nat) (ys:List Int),lX[i]?=some ys->∃ A' c',vs[i]?=some (.slice A' ys.length c')/\Rd w B 1 A' ys.length (ints ys)
theorem xJ.below {w w':World}{B:Nat}{A:Option Addr}{lX:List (List Int)}(h:xJ w B A lX)(hb:Below B w w'):xJ w' B A lX:=by
 obtain⟨vs,h1,h2⟩:=h;refine⟨vs,h1.below hb,fun i ys hi=>?_⟩;obtain⟨A',c',h3,h4⟩:=h2 i ys hi;exact⟨A',c',h3,h4.below hb⟩
theorem xJ.more {w:World}{B B':Nat}{A:Option Addr}{lX:List (List Int)}(h:xJ w B A lX)(hB:B<=B'):xJ w B' A lX:=by
 obtain⟨vs,h1,h2⟩:=h;refine⟨vs,h1.more hB,fun i ys hi=>?_⟩;obtain⟨A',c',h3,h4⟩:=h2 i ys hi;exact⟨A',c',h3,h4.more hB⟩
theorem xJ.at_ {w:World}{B:Nat}{A:Option Addr}{lX:List (List Int)}(h:xJ w B A lX){k:Nat}(hk:k<lX.length) :
  ∃ b off ys A' c',A=some ⟨b,off,none⟩/\b<B/\lX[k]?=some ys/\w.cell? ⟨b,off+k,none⟩=some (.slice A' ys.length c')/\Rd w B 1 A' ys.length (ints ys):=by
 obtain⟨vs,h1,h2⟩:=h;obtain⟨b,off,u,hA,hb,hu,hc⟩:=h1.at_ hk;obtain⟨A',c',h3,h4⟩:=h2 k lX[k] (au hk);rw[h3] at hu;injection hu with hu
 subst hu;exact⟨b,off,_,A',c',hA,hb,au hk,hc,h4⟩
def tJ (w:World)(base K:Nat)(vs:List Value)(lX:List (List Int)):Prop:=
 vs.length=lX.length/\∀ (i:Nat) (ys:List Int),lX[i]?=some ys->∃ A c,vs[i]?=some (.slice A ys.length c)/\w.ownsRow base 3 1 (.slice A ys.length c) ys.length (ints ys) /\
  ∀ q,(Value.slice A ys.length c).ownBlock=some q->q<K
theorem tJ.nil_ (w:World)(base K:Nat):tJ w base K [] []:=⟨rfl,fun i ys h=>by simp at h⟩
theorem tJ.more {w:World}{base K K':Nat}{vs:List Value}{lX:List (List Int)}(h:tJ w base K vs lX)(hK:K<=K'):tJ w base K' vs lX:=by
 refine⟨h.1,fun i ys hi=>?_⟩;obtain⟨A,c,h1,h2,h3⟩:=h.2 i ys hi;exact⟨A,c,h1,h2,fun q hq=>by have:=h3 q hq;omega⟩
theorem tJ.keep {w w':World}{base K:Nat}{vs:List Value}{lX:List (List Int)}{row:Option Nat}(h:tJ w base K vs lX)(hg:w.grownBy w' row)
  (hr:∀ q,row=some q->K<=q\/∃ cs,w.heap[q]?=some (.cells cs 22 (0,0))):tJ w' base K vs lX:=by
 refine⟨h.1,fun i ys hi=>?_⟩;obtain⟨A,c,h1,h2,h3⟩:=h.2 i ys hi;refine⟨A,c,h1,h2.kept hg ?_,h3⟩;cases hob:(Value.slice A ys.length c).ownBlock with
 | none=>exact .inl rfl
 | some q=>
  refine .inr (fun e=>?_);have hq:=h3 q hob;rcases hr q e.symm with hk | ⟨cs,hcs⟩
  ·omega
  ·rcases h2.2 with ⟨hv,_⟩ | ⟨g,cap,cur,hv,_,hh,_⟩
   ·rw[hv] at hob;simp[Value.ownBlock] at hob
   ·rw[hv] at hob;simp[Value.ownBlock] at hob;subst hob;rw[hh] at hcs;injection hcs with hcs;injection hcs with _ ht;exact absurd ht (by decide)
theorem tJ.snoc {w:World}{base K K':Nat}{vs:List Value}{lX:List (List Int)}{A:Option Addr}{c:Nat}{ys:List Int}(h:tJ w base K vs lX)(hK:K<=K')
  (hl:w.ownsRow base 3 1 (.slice A ys.length c) ys.length (ints ys)) (hq:∀ q,(Value.slice A ys.length c).ownBlock=some q->q<K'):tJ w base K' (vs++[.slice A ys.length c]) (lX++[ys]):=by
 refine⟨by simp[h.1],fun i zs hi=>?_⟩;by_cases hlt:i<lX.length
 ·rw[bz hlt] at hi;obtain⟨A',c',h1,h2,h3⟩:=h.2 i zs hi;exact⟨A',c',by rw[bz (by rw[h.1];exact hlt)];exact h1,h2,fun q hq=>by have:=h3 q hq;omega⟩
 ·have hi0:i=lX.length:=by
   have:=(ak.1 hi).1;simp at this;omega
  subst hi0;rw[aT (by omega)] at hi;simp at hi;subst hi;exact⟨A,c,by rw[aT (by rw[h.1];omega),h.1];simp,hl,hq⟩
theorem t_ {w:World}{base base':Nat}{e:TypeId}{size n:Nat}{v:Value}{xs:List Value}(h:w.ownsRow base e size v n xs)(hb:base'<=base):w.ownsRow base' e size v n xs:=by
 refine⟨h.1,?_⟩;rcases h.2 with h2 | ⟨g,cap,cur,h1,h2,h3⟩
 ·exact .inl h2
 ·exact .inr ⟨g,cap,cur,h1,by omega,h3⟩
theorem Az {w:World}{base:Nat}{e:TypeId}{size n:Nat}{v:Value}{xs:List Value}(h:w.ownsRow base e size v n xs):∀ q,v.ownBlock=some q->∃ cs,w.heap[q]?=some (.cells cs e (0,0)):=by
 intro q hq;rcases h.2 with ⟨rfl,_⟩ | ⟨g,cap,cur,rfl,_,hh,_⟩
 ·simp[Value.ownBlock] at hq
 ·simp[Value.ownBlock] at hq;subst hq;exact⟨cur,hh⟩
theorem yO {w:World}{b1 b2:Nat}{e1 e2:TypeId}{s1 s2 n1 n2:Nat}{v1 v2:Value}{xs ys:List Value}(h1:w.ownsRow b1 e1 s1 v1 n1 xs)(h2:w.ownsRow b2 e2 s2 v2 n2 ys)(hne:e1≠e2):v1.ownBlock=none\/v1.ownBlock≠v2.ownBlock:=by
 cases hob:v1.ownBlock with
 | none=>exact .inl rfl
 | some q=>
  refine .inr (fun e=>?_);obtain⟨c1,k1⟩:=Az h1 q hob;obtain⟨c2,k2⟩:=Az h2 q e.symm;rw[k1] at k2;injection k2 with k2;injection k2 with _ ht;exact hne ht
theorem aa9 {α:Type}(vs:List α)(a b:α):(vs++[a]).set vs.length b=vs++[b]:=by
 rw[List.set_append_right _ _ (ag _)];simp
def al7 (lX:List (List Int))(w:World)(e:Ending)(w':World):Prop:=
 ∃ A c vs,e=.returned (.slice A lX.length c)/\w'.ownsRow w.heap.size 22 1 (.slice A lX.length c) lX.length vs/\tJ w' w.heap.size w'.heap.size vs lX/\Below w.heap.size w w'
theorem O5 {w':World}{base:Nat}{A:Option Addr}{c:Nat}{vs:List Value}{lX:List (List Int)}(ho:w'.ownsRow base 22 1 (.slice A lX.length c) lX.length vs)(hr:tJ w' base w'.heap.size vs lX) :
  xJ w' w'.heap.size A lX:=by
 refine⟨vs,Rd.kX ho,fun i ys hi=>?_⟩;obtain⟨A',c',h1,h2,_⟩:=hr.2 i ys hi;exact⟨A',c',h1,Rd.kX h2⟩
theorem ab5:(Tryz.prog.info? 22).map (fun i=>(i.zero,i.size,i.bytes))=some (some (.slice none 0 0),1,24):=by kernel_rfl
theorem agf {w:World}{ops:Array Oper}{rest:List Oper}{o:Oper}{a:Act}{Q:Exit->Act->World->Prop}(hw:Region.wanted o (yielded ops a.tmps)=true)(s x:Operand)
  (ho:o.op=.call { callee:=.builtin .append,args:=#[s,x],argTypes:=#[95,95] })
  {base:Nat} {v:Value} {n:Nat} {xs:List Value} (hs:a.eval s=v) (hown:w.ownsRow base 22 1 v n xs)
  {B:Nat} {A:Option Addr} {m c:Nat} {ys:List Value} (hx:a.eval x=.slice A m c) (hr:Rd w B 1 A m ys) (h1:∀ u∈ys,u.oneCell'=true)
  (hlen:n+m<=5000000000000) (hbase:base<=w.heap.size)
  (h:∀ A' c' w',w'.ownsRow base 22 1 (.slice A' (n+m) c') (n+m) (xs++ys)->w.grownBy w' v.ownBlock ->
   ((Value.slice A' (n+m) c').ownBlock=v.ownBlock\/(Value.slice A' (n+m) c').ownBlock=some w.heap.size)->wpList Tryz.prog ops Q rest (a.put o.dst (.slice A' (n+m) c')) w') :
  wpList Tryz.prog ops Q (o::rest) a w:=by
 obtain⟨i0,hi,hz0,hz1,hz2⟩:=dR ab5;refine rV hw s x _ ho base _ i0 (.slice none 0 0) 1 24 Tryz.underlying95 hi hz0 hz1 hz2 rfl (by decide) v n xs hs hown B A m c ys hx hr h1 (by unfold maxLen;omega) (by omega) hbase ?_;intro v' w' h2 h3 h4;obtain⟨A',c',rfl⟩:=o7 h2;exact h A' c' w' h2 h3 h4
end Go.Proofs.YtkachcflifhgiaaGreatDoor
