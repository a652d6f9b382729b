/-  -/
import Derived.Test.YtkachcflifhgiaaGreatDoorM06
import Derived.Test.YtkachcflifhgiaaGreatDoorM02
import Derived.Deep.RegionWith
import Derived.Deep.OwnRows
import Derived.Laws.Strings
set_option linter.unusedVariables false
set_option maxRecDepth 100000
set_option maxHeartbeats 16000000
namespace Go.Proofs.YtkachcflifhgiaaGreatDoor
open Go Go.RowKit
theorem Ye (A:Option Addr)(n c:Nat):∀ u∈[Value.slice A n c],u.oneCell'=true:=by intro u hu;simp at hu;subst hu;rfl
theorem Wh (w:World)(v:Value):Rd (w.alloc (.cells #[v] 22)) (w.heap.size+1) 1 (some ⟨w.heap.size,0,none⟩) 1 [v]:=by
 have:=Rd.kX (rZ w 0 22 #[v] 1 rfl (by decide) (iY _));simpa using this
theorem WU (A:Option Addr)(c:Nat)(xs:List Int)(w:World)(hr:Rd w w.heap.size 1 A xs.length (ints xs))(hl:xs.length<=1099511627776) :
  Calls Tryz.prog 82 #[.slice A xs.length c] w (al7 (Sp.labels xs) w):=by
 have HR:=jP hr;clear hr;generalize hn:xs.length=n at *;have HN:=jP hn;clear hn;generalize hB:w.heap.size=B at *;have tY:=jP hB;clear hB;go_enter Tryz.func82,Tryz.ntmps82
 go_wp2
 rw[tY.1];go_loopw [3,10] (fun vo i wr=>∃ (k:Nat) (vs:List Value) (Ao:Option Addr) (co:Nat) (Al:Option Addr) (cl K:Nat),k<=n/\i=.int .i64 k/\vo=.slice Ao (vs.length+1) co /\
   wr.ownsRow B 22 1 (.slice Ao (vs.length+1) co) (vs.length+1) (vs++[.slice Al (Sp.st (xs.take k)).2.length cl])/\tJ wr B K vs (Sp.st (xs.take k)).1 /\
   wr.ownsRow K 3 1 (.slice Al (Sp.st (xs.take k)).2.length cl) (Sp.st (xs.take k)).2.length (ints (Sp.st (xs.take k)).2)/\B<=K/\K<=wr.heap.size/\Below B w wr) (fun _ i _=>n-(intOf i).toNat)
 case atStart=>
  refine⟨0,[],some ⟨B,0,none⟩,1,none,0,B,by omega,rfl,rfl,?_,?_,?_,by omega,?_,?_⟩
  ·have:=rZ w B 22 #[.slice none 0 0] 1 rfl (by decide) (by have:=tY.1;omega);rw[tY.1] at this;exact this
  ·exact tJ.nil_ _ _ _
  ·exact aH _ _ _ _
  ·have:=tY.1;simp;omega
  ·exact (ai B w).alloc (by have:=tY.1;omega) _
 case round=>
  obtain⟨k,vs,Ao,co,Al,cl,K,hk,rfl,rfl,ho,hrw,hol,hBK,hKw,hb⟩:=hrel;have HO:=jP ho;have HRW:=jP hrw;have Dy:=jP hol;have oJ:=jP hb;clear ho hrw hol hb;have aly:=Sp.st_len (xs.take k);have hvl:vs.length<=k:=by (have:=HRW.1.1;have h2:(xs.take k).length<=k:=by simp;omega);omega
  clear aly;by_cases hlt:k<n
  ·obtain⟨b,off,u,rfl,_,hu,hcu⟩:=jZ (HR.1.below oJ.1) hlt;have hts:xs.take (k+1)=xs.take k++[u]:=by
    obtain⟨hk',rfl⟩:=ak.1 hu;rw[az hk']
   have yX:=jP hts;clear hts hu;by_cases h46:u=46
   ·have Xe:(u==46)=true:=by rw[beq_iff_eq];exact h46
    obtain⟨e1,e2⟩:=Sp.agw (xs.take k) u h46;have E1:=jP e1;have E2:=jP e2;clear e1 e2 h46;go_wp2_with (at_builtin;refine agf (by rfl) _ _ rfl (base:=B) rfl (HO.1.alloc _) rfl (Wh wr (.slice none 0 0)) (Ye none 0 0) (by omega) (by simp;have:=oJ.1.size;have:=tY.1;omega) ?_)
    intro A2 c2 w2 ho2 hg2 _;have hal:wr.grownBy (wr.alloc (.cells #[.slice none 0 0] 22)) none:=Jy (qm _ _) _;have hoa:=HO.1.alloc (.cells #[.slice none 0 0] 22);have hla:=Dy.1.alloc (.cells #[.slice none 0 0] 22);have hl2:=hla.kept hg2 (yO hla hoa (by decide));have hs2:wr.heap.size+1<=w2.heap.size:=by simpa using hg2.size
    have hrw2:=((HRW.1.keep hal (fun q h=>by cases h)).keep hg2 (fun q h=>.inr (Az hoa q h))).snoc (K':=w2.heap.size) (by omega) (t_ hl2 hBK) (fun q h=>(hl2.lt q h).2);have hb2:=(oJ.1.alloc (by have:=oJ.1.size;have:=tY.1;omega) (.cells #[.slice none 0 0] 22)).grown hg2 (by simp;have:=oJ.1.size;have:=tY.1;omega) (fun q h=>(hoa.lt q h).1);have lG:=jP ho2;have amc:=jP hrw2;have HB2:=jP hb2;clear ho2 hg2 hal hoa hla hl2 hrw2 hb2;go_wp2
    go_roundw
    case rel=>
     refine⟨k+1,vs++[.slice Al (Sp.st (xs.take k)).2.length cl],A2,c2,none,0,w2.heap.size,by omega,by go_num,by simp,?_⟩;rw[yX.1,E1.1,E2.1,aA];exact⟨by rw[dQ];exact lG.1,amc.1,aH _ _ _ _,by have:=tY.1;have:=oJ.1.size;omega,ag _,HB2.1⟩
    case measure=>simp[intOf];omega
   ·have Xe:(u==46)=false:=by rw[aX];exact h46
    obtain⟨e1,e2⟩:=Sp.aeF (xs.take k) u h46;have E1:=jP e1;have E2:=jP e2;clear e1 e2 h46;have hlast:=Sp.aeE (xs.take k);have hll:(Sp.st (xs.take k)).2.length<=k:=by (have h2:(xs.take k).length<=k:=by simp;omega);omega
    clear hlast;obtain⟨go,rfl,hgo,aoL,hcap,hoc,hof⟩:=xw HO.1 (by omega);have hc1:wr.cell? ⟨go,vs.length,none⟩=some (.slice Al (Sp.st (xs.take k)).2.length cl):=hoc vs.length _ (by simp);clear hoc hof hcap;have e0:((vs.length:Int)+1-1)=(vs.length:Int):=by omega
    go_wp2_with (at_builtin;refine kW (by rfl) _ _ rfl (base:=K) rfl (Dy.1.alloc _) rfl (Yu wr u) (by omega) (by simp;omega) ?_)
    intro A2 c2 w2 hl2 hg2 _;have hoa:=HO.1.alloc (.cells #[.int .i64 u] 3);have hla:=Dy.1.alloc (.cells #[.int .i64 u] 3);have hal:wr.grownBy (wr.alloc (.cells #[.int .i64 u] 3)) none:=Jy (qm _ _) _;have ho2:=hoa.kept hg2 (yO hoa hla (by decide));have hrw2:=(HRW.1.keep hal (fun q h=>by cases h)).keep hg2 (fun q h=>.inl (hla.lt q h).1);have hs2:wr.heap.size+1<=w2.heap.size:=by simpa using hg2.size
    have hb2:=(oJ.1.alloc (by have:=oJ.1.size;have:=tY.1;omega) (.cells #[.int .i64 u] 3)).grown hg2 (by simp;have:=oJ.1.size;have:=tY.1;omega) (fun q h=>by have:=(hla.lt q h).1;omega);have hst:=ho2.stored vs.length (.slice A2 ((Sp.st (xs.take k)).2.length+1) c2);rw[aa9] at hst;have hl3:=hl2.kept hst.2 (by
     rcases yO hl2 ho2 (by decide) with h | h
     ·exact .inl h
     ·exact .inr (by simpa[Value.ownBlock] using h))
    have hrw3:=hrw2.keep hst.2 (fun q h=>.inr (Az ho2 q (by simpa[Value.ownBlock] using h)));have hb3:=hb2.setCell (p:=⟨go,vs.length,none⟩) hgo (.slice A2 ((Sp.st (xs.take k)).2.length+1) c2);have hc2:w2.cell? ⟨go,vs.length,none⟩=some (.slice Al (Sp.st (xs.take k)).2.length cl):=by
     obtain⟨g',hA,_,_,_,hoc,_⟩:=xw ho2 (by omega);injection hA with hA;injection hA with hA _;subst hA
     exact hoc vs.length _ (by simp)
    have hf2:w2.frozen? ⟨go,vs.length,none⟩=false:=by
     obtain⟨g',hA,_,_,_,_,hof⟩:=xw ho2 (by omega);injection hA with hA;injection hA with hA _;subst hA
     exact hof vs.length
    have mX:=jP hst.1;have amb:=jP hrw3;have RV:=jP hl3;have HB3:=jP hb3;clear hoa hla hal ho2 hrw2 hb2 hst hl3 hrw3 hb3 hl2 hg2;go_wp2
    go_roundw
    case rel=>
     refine⟨k+1,vs,some ⟨go,0,none⟩,co,A2,c2,K,by omega,by go_num,rfl,?_⟩;rw[yX.1,E1.1,E2.1,aA];exact⟨mX.1,amb.1,RV.1,hBK,by simp;omega,HB3.1⟩
    case measure=>simp[intOf];omega
  ·have hkn:k=n:=by omega
   have htk:xs.take k=xs:=aP (by have:=HN.1;omega);have wZ:=jP htk;clear hkn htk;have hlen:(Sp.labels xs).length=vs.length+1:=by
    unfold Sp.labels;rw[aA,HRW.1.1,wZ.1];rfl
   have HLEN:=jP hlen;clear hlen;go_wp2
   go_ret
   have hl:=Dy.1;have hr:=HRW.1;have ho:=HO.1;rw[wZ.1] at hl hr ho;have hfin:=hr.snoc (K':=wr.heap.size) hKw (t_ hl hBK) (fun q h=>(hl.lt q h).2);refine⟨Ao,co,vs++[.slice Al (Sp.st xs).2.length cl],?_,?_,?_,?_⟩
   ·rw[HLEN.1];rfl
   ·rw[HLEN.1,tY.1];exact ho
   ·rw[tY.1];exact hfin
   ·rw[tY.1];exact oJ.1
theorem Yh (A:Option Addr)(c:Nat)(lX:List (List Int))(B0:Nat)(w:World)(hr:xJ w B0 A lX)(hB0:B0<=w.heap.size)(hl:Sp.total lX<=8796093022208)(hn0:lX.length<=maxLen) :
  Calls Tryz.prog 77 #[.slice A lX.length c] w (vG 3 (Sp.join lX) w):=by
 have HR:=jP (hr.more hB0);clear hr hB0;unfold maxLen at hn0;generalize hn:lX.length=n at *;have HN:=jP hn;clear hn;generalize hB:w.heap.size=B at *;have tY:=jP hB;clear hB;go_enter Tryz.func77,Tryz.ntmps77
 go_wp2
 go_loopw [3,8] (fun vo i wr=>∃ (k:Nat) (Ao:Option Addr) (co:Nat),k<=n/\i=.int .i64 k/\vo=.slice Ao (Sp.join (lX.take k)).length co /\
   wr.ownsRow B 3 1 (.slice Ao (Sp.join (lX.take k)).length co) (Sp.join (lX.take k)).length (ints (Sp.join (lX.take k)))/\Below B w wr) (fun _ i _=>n-(intOf i).toNat)
 case atStart=>exact⟨0,none,0,by omega,rfl,rfl,aH _ _ _ _,ai _ _⟩
 case round=>
  obtain⟨k,Ao,co,hk,rfl,rfl,ho,hb⟩:=hrel;have HO:=jP ho;have oJ:=jP hb;clear ho hb;have hsz:B<=wr.heap.size:=by have:=oJ.1.size;have:=tY.1;omega
  by_cases hlt:k<n
  ·obtain⟨b,off,ys,A',c',rfl,_,hys,hcy,He⟩:=(HR.1.below oJ.1).at_ (show k<lX.length by have:=HN.1;omega);have hj:=Sp.Lh lX k ys hys;have hb1:(Sp.join (lX.take (k+1))).length<=8796093022208:=aK (Sp.P8 _) (aK (Sp.VL _ _) hl);rw[hj] at hb1;simp at hb1;have HJ:=jP hj;have Vq:=jP He;clear hj hys He;by_cases h0:k=0
   ·have hk0:¬(0:Int)<(k:Int):=by omega
    rw[aj h0] at hb1;simp at hb1;have hj2:Sp.join (lX.take (k+1))=Sp.join (lX.take k)++ys:=by rw[HJ.1,aj h0];simp
    have HJ2:=jP hj2;clear hj2 h0;go_wp2_with (at_builtin;refine kW (by rfl) _ _ rfl (base:=B) rfl HO.1 rfl Vq.1 (by omega) hsz ?_)
    intro A2 c2 w2 ho2 hg2 _;have hb2:=oJ.1.grown hg2 hsz (fun q h=>(HO.1.lt q h).1);have lG:=jP ho2;have HB2:=jP hb2;clear ho2 hg2 hb2;go_wp2
    go_roundw
    case rel=>
     refine⟨k+1,A2,c2,by omega,by go_num,?_,?_,HB2.1⟩
     ·rw[HJ2.1,aA]
     ·rw[HJ2.1,aA];exact lG.1
    case measure=>simp[intOf];omega
   ·have hk0:(0:Int)<(k:Int):=by omega
    rw[ah h0] at hb1;simp at hb1;have hj2:Sp.join (lX.take (k+1))=(Sp.join (lX.take k)++[46])++ys:=by rw[HJ.1,ah h0]
    have HJ2:=jP hj2;clear hj2 h0;go_wp2_with (at_builtin;refine kW (by rfl) _ _ rfl (base:=B) rfl (HO.1.alloc _) rfl (Yu wr 46) (by omega) (by simp;omega) ?_)
    intro A1 c1 w1 ho1 hg1 _;have hs1:wr.heap.size+1<=w1.heap.size:=by simpa using hg1.size
    have hoa:=HO.1.alloc (.cells #[.int .i64 46] 3);have hb1':=(oJ.1.alloc hsz (.cells #[.int .i64 46] 3)).grown hg1 (by simp;omega) (fun q h=>(hoa.lt q h).1);have ahi:Rd w1 B 1 A' ys.length (ints ys):=((Vq.1.alloc hsz _).grown hg1 (by simp;omega) (fun q h=>(hoa.lt q h).1));have nT:=jP ho1;have HB1:=jP hb1';have ama:=jP ahi;clear ho1 hg1 hoa hb1' ahi;go_wp2_with (at_builtin;refine kW (by rfl) _ _ rfl (base:=B) rfl nT.1 rfl ama.1 (by omega) (by omega) ?_)
    intro A2 c2 w2 ho2 hg2 _;have hb2:=HB1.1.grown hg2 (by omega) (fun q h=>(nT.1.lt q h).1);have lG:=jP ho2;have HB2:=jP hb2;clear ho2 hg2 hb2;go_wp2
    go_roundw
    case rel=>
     refine⟨k+1,A2,c2,by omega,by go_num,?_,?_,HB2.1⟩
     ·rw[HJ2.1,aA,aA];rfl
     ·rw[HJ2.1,aA,aA,dQ];exact lG.1
    case measure=>simp[intOf];omega
  ·have htk:lX.take k=lX:=aP (by have:=HN.1;omega);have wZ:=jP htk;clear htk;go_wp2
   go_ret
   have ho:=HO.1;rw[wZ.1] at ho;refine⟨Ao,co,?_,?_,?_⟩
   ·rw[wZ.1];rfl
   ·rw[tY.1];exact ho
   ·rw[tY.1];exact oJ.1
theorem OO (A:Option Addr)(c:Nat)(xs:List ByteArray)(B:Nat)(w:World)(hr:Rd w B 1 A xs.length (strs xs))(hl:xs.length<=100000000000000000) :
  Calls Tryz.prog 123 #[.slice A xs.length c] w fun e w'=>e=.returned (.tuple #[.int .i64 (Sp.chk xs).1,.int .i64 (Sp.chk xs).2])/\w=w':=by
 have HR:=jP hr;clear hr;generalize hn:xs.length=n at *;have HN:=jP hn;clear hn;by_cases h0:n=0
 ·have hx:xs=[]:=bu (by have:=HN.1;omega);have hb0:((n:Int)==0)=true:=by rw[beq_iff_eq];omega
  subst hx;clear h0;go_enter Tryz.func123,Tryz.ntmps123
  go_wp2
  go_ret2
  exact⟨rfl,rfl⟩
 ·have hb0:((n:Int)==0)=false:=by rw[aX];omega
  have hne:xs≠[]:=by rintro rfl;have:=HN.1;simp at this;omega
  have Vx:=jP hne;clear hne;go_enter Tryz.func123,Tryz.ntmps123
  go_wp2
  go_loop [14] (fun i=>∃ k:Nat,k<=n/\i=.int .i64 k/\Sp.fine xs k) (fun i=>n-(intOf i).toNat)
  case atStart=>exact⟨0,by omega,rfl,fun j s hj=>by omega⟩
  case round=>
   obtain⟨k,hk,rfl,hf⟩:=hrel;have HF:=jP hf;clear hf;by_cases hlt:k<n
   ·obtain⟨b,off,s,rfl,_,hs,hcs⟩:=EH HR.1 hlt;have HS:=jP hs;clear hs;by_cases hz:s.size=0
    ·have he:s.toList.isEmpty=true:=by rw[size_empty];simpa using hz
     have hck:=Sp.Vd xs k s 10 HF.1 HS.1 (.inl ⟨hz,rfl⟩);have BF:=jP hck;clear hck hz;go_wp2
     go_ret2
     rw[BF.1];exact⟨rfl,rfl⟩
    ·have he:s.toList.isEmpty=false:=by rw[size_empty];simpa using hz
     by_cases h63:63<s.size
     ·have hck:=Sp.Vd xs k s 11 HF.1 HS.1 (.inr ⟨h63,rfl⟩);have BF:=jP hck;clear hck hz;have IP:(63:Int)<(s.size:Int):=by omega
      go_wp2
      go_ret2
      rw[BF.1];exact⟨rfl,rfl⟩
     ·have IP:¬(63:Int)<(s.size:Int):=by omega
      have hf2:=Sp.ZJ xs k s HF.1 HS.1 hz (by omega);have HF2:=jP hf2;clear hf2 hz;go_wp2
      go_round
      case rel=>exact⟨k+1,by omega,by go_num,HF2.1⟩
      case measure=>simp[intOf];omega
   ·have hkn:k=n:=by omega
    have hfa:Sp.fine xs xs.length:=by have:=HF.1;rw[HN.1,<-hkn];exact this
    have BD:=jP hfa;clear hfa hkn;go_wp2
    go_loop [6,32] (fun v i=>∃ m:Nat,m<=n/\i=.int .i64 m/\v=.int .i64 ((n:Int)-1+(Sp.bytes (xs.take m):Nat))) (fun _ i=>n-(intOf i).toNat)
    case atStart=>exact⟨0,by omega,rfl,by simp[Sp.bytes]⟩
    case round=>
     obtain⟨m,hm,rfl,rfl⟩:=hrel;have hbl:=Sp.ac4 xs BD.1 m;by_cases hlt2:m<n
     ·obtain⟨b,off,s,rfl,_,hs,hcs⟩:=EH HR.1 hlt2;have hbt:=Sp.J6 xs m s hs;have hs63:=(BD.1 m s (by have:=HN.1;omega) hs).2;have HBT:=jP hbt;clear hbt hs;generalize Sp.bytes (xs.take m)=bm at *;have hbm:(bm:Int)<=63*(m:Int):=by omega
      go_wp2
      go_round
      case rel=>exact⟨m+1,by omega,by go_num,by rw[HBT.1];go_num⟩
      case measure=>simp[intOf];omega
     ·have hmn:m=n:=by omega
      have htk:xs.take m=xs:=aP (by have:=HN.1;omega);have wZ:=jP htk;clear htk;rw[wZ.1] at hbl;rw[wZ.1];by_cases h1:127<n
      ·have hck:=Sp.QV xs Vx.1 BD.1 (.inl (by have:=HN.1;omega));have BF:=jP hck;clear hck hmn;have h1i:(127:Int)<(n:Int):=by omega
       go_wp2
       go_ret2
       rw[BF.1];exact⟨rfl,rfl⟩
      ·have h1i:¬(127:Int)<(n:Int):=by omega
       by_cases h2:253<n-1+Sp.bytes xs
       ·have hck:=Sp.QV xs Vx.1 BD.1 (.inr (by have:=HN.1;omega));have BF:=jP hck;clear hck hmn;have h2i:(253:Int)<(n:Int)-1+(Sp.bytes xs:Nat):=by omega
        go_wp2
        go_ret2
        rw[BF.1];exact⟨rfl,rfl⟩
       ·have hck:=Sp.ahU xs Vx.1 BD.1 (by have:=HN.1;omega);have BF:=jP hck;clear hck hmn;have h2i:¬(253:Int)<(n:Int)-1+(Sp.bytes xs:Nat):=by omega
        go_wp2
        go_ret2
        rw[BF.1];exact⟨rfl,rfl⟩
end Go.Proofs.YtkachcflifhgiaaGreatDoor
