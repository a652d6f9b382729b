/-      -/
import Derived.Test.YtkachcflifhgiaaGreatDoorGvMZ
import Derived.Test.YtkachcflifhgiaaGreatDoorM13
import Derived.Test.YtkachcflifhgiaaGreatDoorGuUZ
set_option linter.unusedVariables false
set_option maxRecDepth 100000
set_option maxHeartbeats 16000000
namespace Go.Proofs.YtkachcflifhgiaaGreatDoor
open Go Go.RowKit Go.Shelf Go.Proofs
section
variable {w:World} {B:Nat} {V:TV} {T:Gm.Tab}
theorem Gm.aa7 (T:Gm.Tab)(l:List Int):(Gm.xm T l).1.length<=4096:=by
 rw[Gm.Ue];split
 ·simp
 ·split
  ·simp
  ·exact Gm.Uz _
theorem aa6 (h:j_ w B V T)(hB:B<=w.heap.size)(A:Option Addr)(n c:Nat)(l:List Int)(hr:Rd w B 1 A n (ints l))(hn:n<=1000000) :
  Calls Tryz.prog 40 #[kF V,.slice A n c] w fun e w'=>e=.returned (.tuple #[.string (str (Gm.key T l).1),.int .i64 (Gm.key T l).2])/\Below w.heap.size w w':=by
 have F0:=jP (Fr.start h hB);have HR0:=jP (hr.alloc hB (.cells (kK V) 26));have HN:=jP (show Gm.key T l=if (Gm.xm T l).2≠0 then ([],(Gm.xm T l).2) else Ut.enc (Gm.xm T l).1 from rfl);have HL:=jP (Gm.aa7 T l);clear h hB hr;generalize hnf:Gm.key T l=nf at *;have HNF:=jP hnf;clear hnf;obtain⟨x0,x1,x2,x3,x4,x5,x6,x7,x8,x9,x10,x11⟩:=F0.1.cells;go_enter Tryz.func40,Tryz.ntmps40
 go_wp2_with fail
 clear x0 x1 x2 x3 x4 x5 x6 x7 x8 x9 x10 x11;refine (aa5 F0.1.tb F0.1.hx A n c l HR0.1 hn).mono ?_;rintro e w1 ⟨A1,c1,rfl,ho1,hb1⟩;have F1:=jP (F0.1.step hb1);have nT:=jP ho1;clear ho1 hb1 F0 HR0;generalize Gm.xm T l=q at *;obtain⟨d,u⟩:=q;simp only at HN HL nT;by_cases h0:u=0
 ·subst h0;have HV:=jP (show nf=Ut.enc d by rw[HN.1,ah (by simp)]);clear HN;go_wp2_with fail
  refine (Il A1 d.length c1 d w1.heap.size w1 (Rd.kX nT.1) (ag _) (by have:=HL.1;omega)).mono ?_;rintro e w2 ⟨rfl,hb2⟩;have F2:=jP (F1.1.step hb2);clear hb2 F1 nT;go_wp2_with fail
  go_ret2
  rw[<-HV.1];exact⟨rfl,F2.1.bl⟩
 ·have HV:=jP (show nf=([],u) by rw[HN.1,aj h0]);have hb:(u != 0)=true:=by simpa using h0
  clear HN h0;go_wp2_with fail
  go_ret2
  rw[HV.1];exact⟨rfl,F1.1.bl⟩
theorem Al.Xv {l:List Int}(h:Al.ascii l=true):∀ c∈l,¬Gm.kS c=0:=by
 intro c hc;have:=b_.1 h c hc;simp only[dG] at this;unfold Gm.kS;rw[ah (by omega),aj this.2];decide
theorem Al.Un (L:List UInt8):(Al.pts L).1.length<=1000000:=by
 unfold Al.pts;split
 ·simp
 ·split
  ·split
   ·simp
   ·rename_i h63
    split
    ·split
     ·rename_i hd
      split
      ·simp
      ·split
       ·rcases Pn.QH (Al.low (L.drop 4)) (by rw[Al.Dj,bF];omega) with ⟨_,h⟩ | ⟨h,_⟩
        ·simp only;omega
        ·simp only[h];simp
       ·simp
     ·simp
    ·simp[Pn.nums];omega
  ·simp
theorem W9 (h:j_ w B V T)(hB:B<=w.heap.size)(A:Option Addr)(n c base:Nat)(l:List Int)(ho:w.ownsRow base 3 1 (.slice A n c) n (ints l))(hbase:base<=w.heap.size)(hn:n<=1000000) :
  Calls Tryz.prog 83 #[kF V,.slice A n c] w fun e w'=>∃ A' c',e=.returned (.tuple #[.slice A' (Gm.lab T l).1.length c',.int .i64 (Gm.lab T l).2]) /\
   w'.ownsRow base 3 1 (.slice A' (Gm.lab T l).1.length c') (Gm.lab T l).1.length (ints (Gm.lab T l).1)/\((Value.slice A' (Gm.lab T l).1.length c').ownBlock=(Value.slice A n c).ownBlock\/∀ q,(Value.slice A' (Gm.lab T l).1.length c').ownBlock=some q->w.heap.size<=q)/\Below w.heap.size w w':=by
 have F0:=jP (Fr.start h hB);have hb0:=(ai w.heap.size w).alloc (ag _) (.cells (kK V) 26);have Vw:=jP (kD ho hb0);have Gg:=jP hbase;have HL:=jP (show l.length=n by have:=ho.1;rw[kH] at this;omega);have HN:=jP (show Gm.lab T l=if (Gm.tC l).2≠0 then ([],(Gm.tC l).2) else if Gm.valid T (Gm.tC l).1≠0 then ([],Gm.valid T (Gm.tC l).1) else ((Gm.tC l).1,0) from rfl);have tV:=jP (show Gm.tC l=if Al.ascii l=true then (if Al.wW (Ut.enc l).1=true then Al.pts (Ut.enc l).1 else (l,0)) else (l,0) from rfl);clear h hB hb0 ho hbase;generalize hnf:Gm.lab T l=nf at *;have HNF:=jP hnf;clear hnf;generalize Gm.tC l=l0 at *;go_enter Tryz.func83,Tryz.ntmps83
 go_wp2_with fail
 have HC:=jP (FI A c l (w.alloc (.cells (kK V) 26)).heap.size (w.alloc (.cells (kK V) 26)) (by rw[HL.1];exact Rd.kX Vw.1) (by rw[HL.1];omega));rw[HL.1] at HC;refine HC.1.mono ?_;rintro e w1 ⟨rfl,hw1⟩;subst hw1;clear HC;generalize hw0:w.alloc (.cells (kK V) 26)=w0 at *;clear hw0;cases ha:Al.ascii l with
 | false=>
  have HZ:=jP (show l0=(l,0) by rw[tV.1,ha];simp);clear tV ha;have HM:=jP (show nf=if Gm.valid T l≠0 then ([],Gm.valid T l) else (l,0) by rw[HN.1,HZ.1,ah (by simp)]);obtain⟨x0,x1,x2,x3,x4,x5,x6,x7,x8,x9,x10,x11⟩:=F0.1.cells;have HC:=jP (ED (F0.1.tb.more F0.1.hx) (ag _) A n c l (Rd.kX Vw.1) (by first | omega | exact RG.1));clear HN HZ;generalize Gm.valid T l=v at *;go_wp2_with fail
  clear x0 x1 x2 x3 x4 x5 x6 x7 x8 x9 x10 x11;refine HC.1.mono ?_;rintro e w9 ⟨rfl,nK⟩;have F9:=jP (F0.1.step nK);have RN:=jP (kD Vw.1 nK);clear nK HC;by_cases hv:v=0
  ·have HX:=jP (show nf=(l,0) by rw[HM.1,ah (by simpa using hv)]);subst hv;clear HM;go_wp2_with fail
   go_ret2
   rw[HX.1];exact⟨A,c,by rw[HL.1];rfl,by rw[HL.1];exact RN.1,.inl (by rw[HL.1]),F9.1.bl⟩
  ·have HX:=jP (show nf=([],v) by rw[HM.1,aj hv]);have hb:(v != 0)=true:=by simpa using hv
   clear HM hv;go_wp2_with fail
   go_ret2
   rw[HX.1];exact⟨none,0,rfl,aH _ _ _ _,.inr (fun q hq=>by cases hq),F9.1.bl⟩
 | true=>
  have HUL:=jP (Al.Xv ha);have wJ:=jP (show l0=if Al.wW (Ut.enc l).1=true then Al.pts (Ut.enc l).1 else (l,0) by rw[tV.1,aj ha]);clear tV ha;go_wp2_with fail
  refine (Il A n c l w0.heap.size w0 (Rd.kX Vw.1) (ag _) (by omega)).mono ?_;rintro e w1 ⟨rfl,hb1⟩;have F1:=jP (F0.1.step hb1);have nT:=jP (kD Vw.1 hb1);clear hb1 F0 Vw;have H7:=jP (show (Ut.enc l).1.length<=16384 by
   unfold Ut.enc;split
   ·simp
   ·split
    ·simp
    ·have:=Ut.IU l;have:=HL.1;simp only;omega)
  generalize (Ut.enc l).1=s at *;go_wp2_with fail
  refine (Zi (str s) (by rw[lT];unfold maxLen;have:=H7.1;omega) w1).mono ?_;rw[oh];rintro e w2 ⟨rfl,hb2⟩;have F2:=jP (F1.1.step hb2);have lG:=jP (kD nT.1 hb2);clear hb2 F1 nT;cases hx:Al.wW s with
  | false=>
   have HZ:=jP (show l0=(l,0) by rw[wJ.1,hx];simp);clear wJ hx;have HM:=jP (show nf=if Gm.valid T l≠0 then ([],Gm.valid T l) else (l,0) by rw[HN.1,HZ.1,ah (by simp)]);obtain⟨x0,x1,x2,x3,x4,x5,x6,x7,x8,x9,x10,x11⟩:=F2.1.cells;have HC:=jP (ED (F2.1.tb.more F2.1.hx) (ag _) A n c l (Rd.kX lG.1) (by first | omega | exact RG.1));clear HN HZ;generalize Gm.valid T l=v at *;go_wp2_with fail
   clear x0 x1 x2 x3 x4 x5 x6 x7 x8 x9 x10 x11;refine HC.1.mono ?_;rintro e w9 ⟨rfl,nK⟩;have F9:=jP (F2.1.step nK);have RN:=jP (kD lG.1 nK);clear nK HC;by_cases hv:v=0
   ·have HX:=jP (show nf=(l,0) by rw[HM.1,ah (by simpa using hv)]);subst hv;clear HM;go_wp2_with fail
    go_ret2
    rw[HX.1];exact⟨A,c,by rw[HL.1];rfl,by rw[HL.1];exact RN.1,.inl (by rw[HL.1]),F9.1.bl⟩
   ·have HX:=jP (show nf=([],v) by rw[HM.1,aj hv]);have hb:(v != 0)=true:=by simpa using hv
    clear HM hv;go_wp2_with fail
    go_ret2
    rw[HX.1];exact⟨none,0,rfl,aH _ _ _ _,.inr (fun q hq=>by cases hq),F9.1.bl⟩
  | true=>
   have HZ:=jP (show l0=Al.pts s by rw[wJ.1,aj hx]);clear wJ hx;have RG:=jP (Al.Un s);have HPC:=jP (ae1 (str s) (by rw[lT];have:=H7.1;omega) w2);rw[oh] at HPC;go_wp2_with fail
   refine HPC.1.mono ?_;rintro e w3 ⟨A3,c3,rfl,ho3,hb3⟩;have F3:=jP (F2.1.step hb3);have HG:=jP (show ∀ q,(Value.slice A3 (Al.pts s).1.length c3).ownBlock=some q->w.heap.size<=q from fun q hq=>by have:=pg ho3 q hq;have:=F2.1.sz;omega);have mX:=jP (lH ho3 (show base<=w2.heap.size by have:=F2.1.sz;have:=Gg.1;omega));clear ho3 hb3 F2 HPC;generalize Al.pts s=pp at *;obtain⟨p,u⟩:=pp;simp only at mX RG HG;by_cases hu:u=0
   ·subst hu;have HM:=jP (show nf=if Gm.valid T p≠0 then ([],Gm.valid T p) else (p,0) by rw[HN.1,HZ.1,ah (by simp)]);obtain⟨x0,x1,x2,x3,x4,x5,x6,x7,x8,x9,x10,x11⟩:=F3.1.cells;have HC:=jP (ED (F3.1.tb.more F3.1.hx) (ag _) A3 p.length c3 p (Rd.kX mX.1) (by first | omega | exact RG.1));clear HN HZ;generalize Gm.valid T p=v at *;go_wp2_with fail
    clear x0 x1 x2 x3 x4 x5 x6 x7 x8 x9 x10 x11;refine HC.1.mono ?_;rintro e w9 ⟨rfl,nK⟩;have F9:=jP (F3.1.step nK);have RN:=jP (kD mX.1 nK);clear nK HC;by_cases hv:v=0
    ·have HX:=jP (show nf=(p,0) by rw[HM.1,ah (by simpa using hv)]);subst hv;clear HM;go_wp2_with fail
     go_ret2
     rw[HX.1];exact⟨A3,c3,rfl,RN.1,.inr HG.1,F9.1.bl⟩
    ·have HX:=jP (show nf=([],v) by rw[HM.1,aj hv]);have hb:(v != 0)=true:=by simpa using hv
     clear HM hv;go_wp2_with fail
     go_ret2
     rw[HX.1];exact⟨none,0,rfl,aH _ _ _ _,.inr (fun q hq=>by cases hq),F9.1.bl⟩
   ·have HX:=jP (show nf=([],u) by rw[HN.1,HZ.1,aj hu]);have hb:(u != 0)=true:=by simpa using hu
    clear hu;go_wp2_with fail
    go_ret2
    rw[HX.1];exact⟨none,0,rfl,aH _ _ _ _,.inr (fun q hq=>by cases hq),F3.1.bl⟩
end
theorem Gm.P7 {T:Gm.Tab}:∀ (ls:List (List Int)) (k:Nat) (l:List Int),(∀ (j:Nat) (x:List Int),j<k->ls[j]?=some x->(Gm.lab T x).2=0)->ls[k]?=some l->(Gm.lab T l).2≠0->Gm.oG T ls=([],(Gm.lab T l).2)
 | [],k,l,_,hk,_=>by simp at hk
 | a::r,0,l,_,hk,he=>by
  simp at hk;subst hk;unfold Gm.oG;rw[aj he]
 | a::r,k+1,l,ha,hk,he=>by
  have h0:=ha 0 a (by omega) rfl;have h1:=Gm.P7 r k l (fun j x hj hx=>ha (j+1) x (by omega) (by simpa using hx)) (by simpa using hk) he;unfold Gm.oG;rw[ah (by simpa using h0),h1,aj he]
theorem Gm.MQ {T:Gm.Tab}:∀ (ls:List (List Int)),(∀ x∈ls,(Gm.lab T x).2=0)->Gm.oG T ls=(ls.map (fun l=>(Gm.lab T l).1),0)
 | [],_=>rfl
 | a::r,h=>by
  have h0:=h a (by simp);have h1:=Gm.MQ r (fun x hx=>h x (aU _ hx));unfold Gm.oG;rw[ah (by simpa using h0),h1,ah (by simp)];rfl
def Gm.mix (T:Gm.Tab)(ls:List (List Int))(k:Nat):List (List Int):=(ls.take k).map (fun l=>(Gm.lab T l).1)++ls.drop k
theorem Gm.abD {T:Gm.Tab}(ls:List (List Int)):Gm.mix T ls 0=ls:=by simp[Gm.mix]
theorem Gm.afj {T:Gm.Tab}(ls:List (List Int))(k:Nat)(h:ls.length<=k):Gm.mix T ls k=ls.map (fun l=>(Gm.lab T l).1):=by simp[Gm.mix,aP h,eU h]
theorem Gm.afi {T:Gm.Tab}(ls:List (List Int))(k:Nat):(Gm.mix T ls k).length=ls.length:=by simp[Gm.mix];omega
theorem Gm.agY {T:Gm.Tab}{ls:List (List Int)}{k:Nat}{l:List Int}(h:ls[k]?=some l):(Gm.mix T ls k)[k]?=some l:=by
 obtain⟨q1,q2⟩:=ak.1 h;unfold Gm.mix;rw[aT (by simp;omega)];simp only[bH,bZ,Nat.min_eq_left (Nat.le_of_lt q1),gY,ji,jC];exact h
theorem Gm.abE {T:Gm.Tab}{ls:List (List Int)}{k:Nat}{l:List Int}(h:ls[k]?=some l):Gm.mix T ls (k+1)=(Gm.mix T ls k).set k (Gm.lab T l).1:=by
 obtain⟨q1,q2⟩:=ak.1 h;unfold Gm.mix;have hd:ls.drop k=l::ls.drop (k+1):=by rw[<-List.getElem_cons_drop q1,q2]
 rw[az q1,q2,gq,List.set_append_right _ _ (by simp;omega)];simp only[bH,bZ,Nat.min_eq_left (Nat.le_of_lt q1),gY];rw[hd,aF,dQ];rfl
theorem tJ.put {w:World}{base K:Nat}{vs:List Value}{lX:List (List Int)}{A:Option Addr}{c k:Nat}{ys:List Int}(h:tJ w base K vs lX)(hk:k<lX.length)
  (hl:w.ownsRow base 3 1 (.slice A ys.length c) ys.length (ints ys)) (hq:∀ q,(Value.slice A ys.length c).ownBlock=some q->q<K):tJ w base K (vs.set k (.slice A ys.length c)) (lX.set k ys):=by
 refine⟨by simp[h.1],fun i zs hi=>?_⟩;by_cases e:k=i
 ·subst e;rw[gy hk] at hi;injection hi with hi;subst hi
  exact⟨A,c,gy (by rw[h.1];exact hk),hl,hq⟩
 ·rw[g_ e] at hi;obtain⟨A',c',h1,h2,h3⟩:=h.2 i zs hi;exact⟨A',c',by rw[g_ e];exact h1,h2,h3⟩
theorem tJ.past {w w':World}{base K:Nat}{vs:List Value}{lX:List (List Int)}(h:tJ w base K vs lX)(hb:Below w.heap.size w w'):tJ w' base K vs lX:=
 h.keep (vS (qm w none) hb) (fun q hq=>by cases hq)
def Ei (r:List (List Int)×Int)(w:World)(e:Ending)(w':World):Prop:=
 ∃ (A:Option Addr) (c:Nat) (vs:List Value) (at_:Int),e=.returned (.tuple #[.slice A r.1.length c,.int .i64 at_,.int .i64 r.2])/\w'.ownsRow w.heap.size 22 1 (.slice A r.1.length c) r.1.length vs/\tJ w' w.heap.size w'.heap.size vs r.1/\Below w.heap.size w w'
theorem Ei.bad {r:List (List Int)×Int}{n at_:Int}{w w':World}(hr:r=([],n))(hb:Below w.heap.size w w'):Ei r w (.returned (.tuple #[.slice none 0 0,.int .i64 at_,.int .i64 n])) w':=by
 subst hr;exact⟨none,0,[],at_,rfl,aH _ _ _ _,tJ.nil_ _ _ _,hb⟩
theorem Gm.Le (T:Gm.Tab)(l:List Int)(hl:l.length<=1000000):(Gm.lab T l).1.length<=1000000:=by
 have h0:(Gm.tC l).1.length<=1000000:=by
  unfold Gm.tC;split
  ·split
   ·exact Al.Un _
   ·exact hl
  ·exact hl
 unfold Gm.lab;split
 ·simp
 ·split
  ·simp
  ·exact h0
theorem Gm.afk (T:Gm.Tab)(l:List Int):(Gm.map T l).1.length<=4096:=by
 unfold Gm.map;split
 ·simp
 ·split
  ·simp
  ·split
   ·simp
   ·simp only;omega
theorem Ut.af0 (L:List UInt8):(Ut.dec L).1.length<=4096:=by
 unfold Ut.dec;split
 ·simp
 ·split
  ·simp
  ·have:=Ut.Uj L.length L;have h2:Ut.oH L=Ut.scan L.length L:=rfl;simp only;rw[h2];omega
theorem Sp.G9 (xs:List Int):∀ y∈Sp.labels xs,y.length<=xs.length:=by
 have h:∀ (xs:List Int) (d:List (List Int)) (l:List Int) (n:Nat),(∀ y∈d,y.length<=n)->l.length+xs.length<=n->∀ y∈(xs.foldl Sp.step (d,l)).1++[(xs.foldl Sp.step (d,l)).2],y.length<=n:=by
  intro xs;induction xs with
  | nil=>
   intro d l n h1 h2 y hy;rcases aO.1 hy with h | h
   ·exact h1 y h
   ·simp at h;subst h;simpa using h2
  | cons c r ih=>
   intro d l n h1 h2;rw[gZ];by_cases hc:c=46
   ·have e:Sp.step (d,l) c=(d++[l],[]):=by unfold Sp.step;rw[aj hc]
    rw[e];refine ih _ _ n (fun y hy=>?_) (by simp at h2 ⊢;omega);rcases aO.1 hy with h | h
    ·exact h1 y h
    ·simp at h;subst h;simp at h2;omega
   ·have e:Sp.step (d,l) c=(d,l++[c]):=by unfold Sp.step;rw[ah hc]
    rw[e];exact ih _ _ n h1 (by simp at h2 ⊢;omega)
 exact h xs [] [] xs.length (by simp) (by simp)
section
variable {w:World} {B:Nat} {V:TV} {T:Gm.Tab}
theorem Pg (h:j_ w B V T)(hB:B<=w.heap.size)(s:ByteArray)(hs:s.size<=1000000) :
  Calls Tryz.prog 38 #[kF V,.string s] w (Ei (Gm.proc T (lst s)) w):=by
 have F0:=jP (Fr.start h hB);have tV:=jP (show Gm.proc T (lst s)=if s.size=0 then ([],10) else if (Ut.dec (lst s)).2.2≠0 then ([],(Ut.dec (lst s)).2.2) else if (Gm.map T (Ut.dec (lst s)).1).2.2≠0 then ([],(Gm.map T (Ut.dec (lst s)).1).2.2)
   else if (Gm.qG T (Gm.map T (Ut.dec (lst s)).1).1).2≠0 then ([],(Gm.qG T (Gm.map T (Ut.dec (lst s)).1).1).2) else Gm.zW T (Gm.qG T (Gm.map T (Ut.dec (lst s)).1).1).1 by unfold Gm.proc;rw[jV])
 have HUD:=jP (fun w=>aaW s hs w);have VC:=jP (Ut.af0 (lst s));clear h hB;generalize hnf:Gm.proc T (lst s)=nf at *;clear hnf;generalize Ut.dec (lst s)=d at *;obtain⟨d1,dat,de⟩:=d;simp only at tV HUD VC;obtain⟨x0,x1,x2,x3,x4,x5,x6,x7,x8,x9,x10,x11⟩:=F0.1.cells;go_enter Tryz.func38,Tryz.ntmps38
 go_wp2_with fail
 clear x0 x1 x2 x3 x4 x5 x6 x7 x8 x9 x10 x11;refine (DK F0.1.tb F0.1.hx).mono ?_;rintro e w1 ⟨rfl,hb⟩;have F1:=jP (F0.1.step hb);clear hb F0;by_cases hz:s.size=0
 ·have HX:=jP (show nf=([],10) by rw[tV.1,aj hz]);have he:s.toList.isEmpty=true:=by rw[size_empty];simpa using hz
  clear tV hz;go_wp2_with fail
  go_ret3
  exact Ei.bad HX.1 F1.1.bl
 have wJ:=jP (show nf=if de≠0 then ([],de) else if (Gm.map T d1).2.2≠0 then ([],(Gm.map T d1).2.2) else if (Gm.qG T (Gm.map T d1).1).2≠0 then ([],(Gm.qG T (Gm.map T d1).1).2) else Gm.zW T (Gm.qG T (Gm.map T d1).1).1 by rw[tV.1,ah hz]);have he:s.toList.isEmpty=false:=by rw[size_empty];simpa using hz
 clear tV hz;go_wp2_with fail
 refine (HUD.1 _).mono ?_;rintro e w2 ⟨A2,c2,rfl,ho,hb⟩;have F2:=jP (F1.1.step hb);have lG:=jP ho;clear ho hb F1 HUD he;by_cases hde:¬de=0
 ·have HX:=jP (show nf=([],de) by rw[wJ.1,aj hde]);have hb:(de != 0)=true:=by simpa using hde
  clear wJ hde;go_wp2_with fail
  go_ret3
  exact Ei.bad HX.1 F2.1.bl
 have hde:=bG.1 hde;subst hde;have ry:=jP (show nf=if (Gm.map T d1).2.2≠0 then ([],(Gm.map T d1).2.2) else if (Gm.qG T (Gm.map T d1).1).2≠0 then ([],(Gm.qG T (Gm.map T d1).1).2) else Gm.zW T (Gm.qG T (Gm.map T d1).1).1 by rw[wJ.1,ah (by simp)]);obtain⟨x0,x1,x2,x3,x4,x5,x6,x7,x8,x9,x10,x11⟩:=F2.1.cells;have vM:=jP (Gm.afk T d1);have HC:=jP (afl (F2.1.tb.more F2.1.hx) (ag _) A2 d1.length c2 d1 (Rd.kX lG.1) (by have:=VC.1;omega));clear wJ;generalize Gm.map T d1=m at *;obtain⟨m1,G7,me⟩:=m;simp only at ry HC vM;go_wp2_with fail
 clear x0 x1 x2 x3 x4 x5 x6 x7 x8 x9 x10 x11;refine HC.1.mono ?_;rintro e w3 ⟨A3,c3,rfl,ho,hb⟩;have F3:=jP (F2.1.step hb);have mX:=jP ho;clear ho hb F2 HC lG;by_cases hme:¬me=0
 ·have HX:=jP (show nf=([],me) by rw[ry.1,aj hme]);have hb:(me != 0)=true:=by simpa using hme
  clear ry hme;go_wp2_with fail
  go_ret3
  exact Ei.bad HX.1 F3.1.bl
 have hme:=bG.1 hme;subst hme;have zL:=jP (show nf=if (Gm.qG T m1).2≠0 then ([],(Gm.qG T m1).2) else Gm.zW T (Gm.qG T m1).1 by rw[ry.1,ah (by simp)]);obtain⟨x0,x1,x2,x3,x4,x5,x6,x7,x8,x9,x10,x11⟩:=F3.1.cells;have Bv:=jP (Gm.Lc F3.1.tb.good m1);have HC:=jP (UA (F3.1.tb.more F3.1.hx) (ag _) A3 m1.length c3 m1 (Rd.kX mX.1) (by have:=vM.1;omega));clear ry;generalize Gm.qG T m1=m at *;obtain⟨q,qe⟩:=m;simp only at zL HC Bv;go_wp2_with fail
 clear x0 x1 x2 x3 x4 x5 x6 x7 x8 x9 x10 x11;refine HC.1.mono ?_;rintro e w4 ⟨A4,c4,rfl,ho,hb⟩;have F4:=jP (F3.1.step hb);have lC:=jP ho;clear ho hb F3 HC mX;by_cases hqe:¬qe=0
 ·have HX:=jP (show nf=([],qe) by rw[zL.1,aj hqe]);have hb:(qe != 0)=true:=by simpa using hqe
  clear zL hqe;go_wp2_with fail
  go_ret3
  exact Ei.bad HX.1 F4.1.bl
 have hqe:=bG.1 hqe;subst hqe;have w_:=jP (show nf=Gm.zW T q by rw[zL.1,ah (by simp)]);have HC:=jP (WU A4 c4 q w4 (Rd.kX lC.1) (by have:=Bv.1;omega));have hll:(Sp.labels q).length<=4097:=by rw[Sp.Eo];have:=Sp.LC q;have:=Bv.1;omega
 have Ce:=jP (show ∀ y∈Sp.labels q,y.length<=4096 from fun y hy=>by have:=Sp.G9 q y hy;have:=Bv.1;omega);have xG:=jP (show nf=if (Gm.oG T (Sp.labels q)).2≠0 then ([],(Gm.oG T (Sp.labels q)).2) else if (Gm.domain T (Gm.oG T (Sp.labels q)).1).2≠0 then ([],(Gm.domain T (Gm.oG T (Sp.labels q)).1).2) else ((Gm.oG T (Sp.labels q)).1,0) by rw[w_.1];rfl);clear zL w_;generalize Sp.labels q=ls at *;go_wp2_with fail
 refine HC.1.mono ?_;rintro e w5 ⟨A5,c5,vs,rfl,ho,hv,hb⟩;have F5:=jP (F4.1.step hb);have alB:=F4.1.sz;have lD:=jP (t_ ho (show w.heap.size<=w4.heap.size by omega));have HV5:=jP (show tJ w5 w.heap.size w5.heap.size vs ls from ⟨hv.1,fun i ys hi=>by
  obtain⟨A',c',k1,k2,k3⟩:=hv.2 i ys hi;exact⟨A',c',k1,t_ k2 (by omega),k3⟩⟩)
 have CE:=jP (pg ho);clear ho hv hb F4 HC lC;generalize hmm:ls.length=m at *;have pU:=jP hmm;clear hmm;go_wp2_with fail
 go_loopw [9,53] (fun ve vi wr=>∃ (k:Nat) (vs:List Value),k<=m/\vi=.int .i64 k/\ve=.int .i64 0/\wr.ownsRow w.heap.size 22 1 (.slice A5 m c5) m vs/\tJ wr w.heap.size wr.heap.size vs (Gm.mix T ls k)/\(∀ (j:Nat) (x:List Int),j<k->ls[j]?=some x->(Gm.lab T x).2=0)/\Fr w V T B wr) (fun _ vi _=>m-(intOf vi).toNat)
 case atStart=>exact⟨0,vs,by omega,rfl,rfl,lD.1,by rw[Gm.abD];exact HV5.1,fun j x h=>by omega,F5.1⟩
 case round=>
  obtain⟨k,vs,hk,rfl,rfl,ho,hv,ha,hf⟩:=hrel;have lI:=jP ho;have vY:=jP hv;have BH:=jP ha;have F6:=jP hf;clear ho hv ha hf;by_cases hlt:k<m
  ·obtain⟨g,hgA,hg1,hg2,hg3,hgc,hgf⟩:=xw lI.1 (by omega);subst hgA;obtain⟨l,hat⟩:∃ l,ls[k]?=some l:=⟨_,au (by rw[pU.1];exact hlt)⟩;obtain⟨A',c',hvk,hol,hqk⟩:=vY.1.2 k l (Gm.agY hat);have hcell:=hgc k _ hvk;have ahw:=hgf k;have hl4:=Ce.1 l (ay hat);have HAT:=jP hat;have Dy:=jP hol;have HQK:=jP hqk;have HVK:=jP hvk;have zN:=jP (Gm.Le T l (by omega));have HS:=jP (Gm.abE (T:=T) hat);have xH:=jP (fun he=>Gm.P7 (T:=T) ls k l BH.1 hat he);have HAS:=jP (fun (he:(Gm.lab T l).2=0)=>show ∀ (j:Nat) (x:List Int),j<k+1->ls[j]?=some x->(Gm.lab T x).2=0 from fun j x hj hx=>by
    by_cases e:j=k
    ·subst e;have h2:=HAT.1;rw[hx] at h2;injection h2 with h2;subst h2;exact he
    ·exact BH.1 j x (by omega) hx)
   clear hat hol hqk hvk hgc hgf;have hx0:=F6.1.drew;have hw6:=F6.1.sz;have hgg:w.heap.size+1<=g:=by have:=CE.1 g rfl;omega
   go_wp2_with fail
   refine aI (S:=(Fr w V T B)) (by kernel_rfl) hx0 (fun hHeld=>?_);refine tk 0 ?_;refine tk 1 ?_;refine tk 2 ?_;refine tk 3 ?_;refine tk 4 ?_;refine tk 5 ?_;have hcd:wr.drew.cell? ⟨g,k,none⟩=some (.slice A' l.length c'):=hcell;refine rc 6 fun K hK=>?_;go_simp
   refine rk hK hx0 fun hHeld=>?_;clear hK K;refine rc 7 fun K hK=>?_;go_simp
   refine (W9 (hx0.tb.more hx0.hx) (ag _) A' l.length c' w.heap.size l (World.ownsRow.drew Dy.1) (by show w.heap.size<=wr.heap.size;omega) (by omega)).mono ?_;rintro e w7 ⟨A7,c7,rfl,mG,hq7,hb7⟩;have hx1:=hx0.step hb7;have mD:=jP mG;have HQ7:=jP hq7;have tZ:=jP hb7;have qo:w7.cell? ⟨g,k,none⟩=some (.slice A' l.length c'):=(hb7.cell (p:=⟨g,k,none⟩) (by show g<wr.heap.size;omega)).trans hcell;have hf7:w7.frozen? ⟨g,k,none⟩=false:=(hb7.frozen (p:=⟨g,k,none⟩) (by show g<wr.heap.size;omega)).trans ahw;clear mG hq7 hb7;try go_wp2_with fail
   refine rk hK hx1 fun hHeld=>?_;clear hK K;refine tk 8 ?_;refine tk 9 ?_;refine tk 10 ?_;refine tk 11 ?_;have hx2:=hx1.wK (((ai (w.heap.size+1) w7)).setCell (p:=⟨g,k,none⟩) hgg (.slice A7 (Gm.lab T l).1.length c7)) (ag _);refine rc 12 fun K hK=>?_;go_simp
   refine rk hK hx2 fun hHeld=>?_;clear hK K;refine tk 13 ?_;refine aJ (by kernel_rfl) ?_ _;have F8:=jP hx2;have hst:=(kD (World.ownsRow.drew lI.1) tZ.1).stored k (.slice A7 (Gm.lab T l).1.length c7);have Dz:=jP hst.1;have hv7:=(vY.1.past (ai _ _).drew).past tZ.1;have hsz:wr.heap.size<=w7.heap.size:=tZ.1.size;have hv8:=((hv7.more hsz).put (k:=k) (by rw[Gm.afi,pU.1];exact hlt) mD.1 (fun q hq=>(mD.1.lt q hq).2)).keep hst.2 (fun q hq=>.inr (Az (kD (World.ownsRow.drew lI.1) tZ.1) q (by simpa[Value.ownBlock] using hq)));rw[<-HS.1] at hv8;have Vl:=jP hv8;clear hst hv7 hv8 hx0 hx1 hx2 lI vY F6 mD HQ7 tZ hcell ahw hcd qo hf7 hHeld Dy HQK HVK;generalize hw8:w7.setCell ⟨g,k,none⟩ (.slice A7 (Gm.lab T l).1.length c7)=w8 at *;have alv:w8.heap.size=w7.heap.size:=by rw[<-hw8];simp[World.setCell]
   clear hw8;rw[<-alv] at Vl;by_cases hle:¬(Gm.lab T l).2=0
   ·have HX:=jP (show nf=([],(Gm.lab T l).2) by rw[xG.1,xH.1 hle,aj hle]);have hb:((Gm.lab T l).2 != 0)=true:=by simpa using hle
    clear xG xH HAS hle;generalize (Gm.lab T l).2=le at *;go_wp2_with fail
    go_ret3
    exact Ei.bad HX.1 F8.1.bl
   ·have hle:=bG.1 hle;have Sz:=jP (HAS.1 hle);rw[hle];clear xH HAS hle;go_wp2_with fail
    go_roundw
    case rel=>exact⟨k+1,_,by omega,by go_num,rfl,Dz.1,Vl.1,Sz.1,F8.1⟩
    case measure=>simp[intOf];omega
  ·obtain rfl:k=m:=by omega
   have hok:∀ x∈ls,(Gm.lab T x).2=0:=fun x hx=>by
    obtain⟨j,hj⟩:=gU.1 hx;exact BH.1 j x (by have:=(ak.1 hj).1;have:=pU.1;omega) hj
   have Zq:=Gm.MQ ls hok;rw[Gm.afj ls k (by rw[pU.1];exact ag _)] at vY;have HRB:=jP (show ∀ y∈ls.map (fun l=>(Gm.lab T l).1),y.length<=1000000 from fun y hy=>by
    obtain⟨x,hx,rfl⟩:=eG.1 hy;exact Gm.Le T x (by have:=Ce.1 x hx;omega))
   have qx:=jP (show nf=if (Gm.domain T (ls.map (fun l=>(Gm.lab T l).1))).2≠0 then ([],(Gm.domain T (ls.map (fun l=>(Gm.lab T l).1))).2) else (ls.map (fun l=>(Gm.lab T l).1),0) by rw[xG.1,Zq,ah (by simp)]);have vM:=jP (show (ls.map (fun l=>(Gm.lab T l).1)).length=k by rw[bH];exact pU.1);clear Zq hok xG;generalize ls.map (fun l=>(Gm.lab T l).1)=os at *;obtain⟨x0,x1,x2,x3,x4,x5,x6,x7,x8,x9,x10,x11⟩:=F6.1.cells;have HC:=jP (Xq (F6.1.tb.more F6.1.hx) (ag _) A5 c5 k os (O5 (c:=c5) (by rw[vM.1];exact lI.1) vY.1) vM.1 (by omega) HRB.1);generalize Gm.domain T os=dm at *;obtain⟨dat,de⟩:=dm;simp only at qx HC;go_wp2_with fail
   clear x0 x1 x2 x3 x4 x5 x6 x7 x8 x9 x10 x11;refine HC.1.mono ?_;rintro e w9 ⟨rfl,nK⟩;have F9:=jP (F6.1.step nK);have RN:=jP (kD lI.1 nK);have HV9:=jP ((vY.1.past nK).more nK.size);clear nK HC lI vY F6;by_cases hde:¬de=0
   ·have HX:=jP (show nf=([],de) by rw[qx.1,aj hde]);have hb:(de != 0)=true:=by simpa using hde
    clear qx hde;go_wp2_with fail
    go_ret3
    exact Ei.bad HX.1 F9.1.bl
   ·have hde:=bG.1 hde;subst hde;have HX:=jP (show nf=(os,0) by rw[qx.1,ah (by simp)]);clear qx;go_wp2_with fail
    go_ret3
    rw[HX.1];exact⟨A5,c5,_,0,by rw[vM.1];rfl,by rw[vM.1];exact RN.1,HV9.1,F9.1.bl⟩
end
theorem Gm.Q9:∀ (ls:List (List Int)) (k:Nat) (l:List Int),(∀ (j:Nat) (x:List Int),j<k->ls[j]?=some x->(Al.lab x).2=0)->ls[k]?=some l->(Al.lab l).2≠0->Gm.pO ls=([],(Al.lab l).2)
 | [],k,l,_,hk,_=>by simp at hk
 | a::r,0,l,_,hk,he=>by
  simp at hk;subst hk;unfold Gm.pO;rw[aj he]
 | a::r,k+1,l,ha,hk,he=>by
  have h0:=ha 0 a (by omega) rfl;have h1:=Gm.Q9 r k l (fun j x hj hx=>ha (j+1) x (by omega) (by simpa using hx)) (by simpa using hk) he;unfold Gm.pO;rw[ah (by simpa using h0),h1,aj he]
theorem Gm.Nv:∀ (ls:List (List Int)),(∀ x∈ls,(Al.lab x).2=0)->Gm.pO ls=(ls.map (fun l=>str (Al.lab l).1),0)
 | [],_=>rfl
 | a::r,h=>by
  have h0:=h a (by simp);have h1:=Gm.Nv r (fun x hx=>h x (aU _ hx));unfold Gm.pO;rw[ah (by simpa using h0),h1,ah (by simp)];rfl
theorem xJ.row {w:World}{B:Nat}{A:Option Addr}{lX:List (List Int)}(h:xJ w B A lX){k:Nat}(hk:k<lX.length) :
  ∃ b off ys A' c',A=some ⟨b,off,none⟩/\b<B/\lX[k]?=some ys/\w.cell? ⟨b,off+k,none⟩=some (.slice A' ys.length c')/\Rd w B 1 A' ys.length (ints ys):=h.at_ hk
def LX (r:List (List Int)×ByteArray×Int)(w:World)(e:Ending)(w':World):Prop:=
 ∃ (A:Option Addr) (c:Nat) (at_:Int),e=.returned (.tuple #[.slice A r.1.length c,.string r.2.1,.int .i64 at_,.int .i64 r.2.2])/\xJ w' w'.heap.size A r.1/\Below w.heap.size w w'
theorem xJ.nil_ (w:World)(B:Nat)(A:Option Addr):xJ w B A []:=⟨[],Rd.nil_ _ _ _ _,fun i ys h=>by simp at h⟩
theorem LX.bad {r:List (List Int)×ByteArray×Int}{n at_:Int}{w w':World}(hr:r=([],⟨#[]⟩,n))(hb:Below w.heap.size w w'):LX r w (.returned (.tuple #[.slice none 0 0,.string ⟨#[]⟩,.int .i64 at_,.int .i64 n])) w':=by
 subst hr;exact⟨none,0,at_,rfl,xJ.nil_ _ _ _,hb⟩
theorem Gm.EP (T:Gm.Tab)(hT:Gm.Good T)(s:List UInt8):(Gm.proc T s).1.length<=5000/\∀ y∈(Gm.proc T s).1,y.length<=1000000:=by
 have hz:([]:List (List Int)).length<=5000/\∀ y∈([]:List (List Int)),y.length<=1000000:=⟨by simp,by simp⟩;have hl:∀ ls:List (List Int),ls.length<=5000->(∀ y∈ls,y.length<=1000000)->(Gm.oG T ls).1.length<=5000/\∀ y∈(Gm.oG T ls).1,y.length<=1000000:=by
  intro ls h1 h2;have hle:∀ ls:List (List Int),(∀ y∈ls,y.length<=1000000)->(Gm.oG T ls).1.length<=ls.length/\∀ y∈(Gm.oG T ls).1,y.length<=1000000:=by
   intro ls;induction ls with
   | nil=>intro _;exact⟨ag _,by simp[Gm.oG]⟩
   | cons a r ih=>
    intro h;have hr:=ih (fun y hy=>h y (aU _ hy));unfold Gm.oG;split
    ·exact⟨by simp,by simp⟩
    ·split
     ·exact⟨by simp,by simp⟩
     ·refine⟨by simp only[dX];omega,fun y hy=>?_⟩;rcases aN.1 hy with rfl | hy
      ·exact Gm.Le T a (h a (by simp))
      ·exact hr.2 y hy
  have:=hle ls h2;exact⟨by omega,this.2⟩
 unfold Gm.proc;split;· exact hz
 split;· exact hz
 split;· exact hz
 split;· exact hz
 have hq:=Gm.Lc hT (Gm.map T (Ut.dec s).1).1;generalize (Gm.qG T (Gm.map T (Ut.dec s).1).1).1=q at *;have h3:=hl (Sp.labels q) (by rw[Sp.Eo];have:=Sp.LC q;omega) (fun y hy=>by have:=Sp.G9 q y hy;omega);unfold Gm.zW;split;· exact hz
 split;· exact hz
 exact h3
theorem Sp.aaX (ls:List (List Int))(h:∀ y∈ls,y.length<=1000000):Sp.total ls<=1000001*ls.length:=by
 induction ls with
 | nil=>simp[Sp.total]
 | cons a r ih=>
  have h1:=ih (fun y hy=>h y (aU _ hy));have h2:=h a (by simp);simp only[Sp.total,fF,List.sum_cons,dX] at *;omega
section
variable {w:World} {B:Nat} {V:TV} {T:Gm.Tab}
theorem JK (h:j_ w B V T)(hB:B<=w.heap.size)(s:ByteArray)(hs:s.size<=1000000) :
  Calls Tryz.prog 75 #[kF V,.string s] w (LX (Gm.mQ T (lst s)) w):=by
 have F0:=jP (Fr.start h hB);have FV:=jP (Gm.EP T h.good (lst s));have tV:=jP (show Gm.mQ T (lst s)=if (Gm.proc T (lst s)).2≠0 then ([],⟨#[]⟩,(Gm.proc T (lst s)).2) else if (Gm.pO (Gm.proc T (lst s)).1).2≠0 then ([],⟨#[]⟩,(Gm.pO (Gm.proc T (lst s)).1).2)
  else if (Sp.chk (Gm.pO (Gm.proc T (lst s)).1).1).2≠0 then ([],⟨#[]⟩,(Sp.chk (Gm.pO (Gm.proc T (lst s)).1).1).2) else ((Gm.proc T (lst s)).1,Sp.nm (Gm.pO (Gm.proc T (lst s)).1).1,0) from rfl)
 clear h hB;generalize hnf:Gm.mQ T (lst s)=nf at *;clear hnf;obtain⟨x0,x1,x2,x3,x4,x5,x6,x7,x8,x9,x10,x11⟩:=F0.1.cells;have HC:=jP (Pg F0.1.tb F0.1.hx s hs);generalize Gm.proc T (lst s)=p at *;obtain⟨ls,pe⟩:=p;simp only at tV HC FV;go_enter Tryz.func75,Tryz.ntmps75
 go_wp2_with fail
 clear x0 x1 x2 x3 x4 x5 x6 x7 x8 x9 x10 x11;refine HC.1.mono ?_;rintro e w1 ⟨A1,c1,vs,at1,rfl,ho,hv,hb⟩;have F1:=jP (F0.1.step hb);have ny:=jP (O5 ho (show tJ w1 _ _ vs ls from hv));clear hb F0 HC ho hv;by_cases hpe:¬pe=0
 ·have HX:=jP (show nf=([],⟨#[]⟩,pe) by rw[tV.1,aj hpe]);have hb:(pe != 0)=true:=by simpa using hpe
  clear tV hpe;go_wp2_with fail
  try simp only[Exit.inBlock,Exit.then]
  refine aS (rE rfl _ _ _) rfl ?_;exact LX.bad HX.1 F1.1.bl
 have hpe:=bG.1 hpe;subst hpe;have wJ:=jP (show nf=if (Gm.pO ls).2≠0 then ([],⟨#[]⟩,(Gm.pO ls).2) else if (Sp.chk (Gm.pO ls).1).2≠0 then ([],⟨#[]⟩,(Sp.chk (Gm.pO ls).1).2) else (ls,Sp.nm (Gm.pO ls).1,0) by rw[tV.1,ah (by simp)]);clear tV;generalize hmm:ls.length=m at *;have pU:=jP hmm;have hm5:m<=5000:=by have:=FV.1.1;omega
 clear hmm;go_wp2_with fail
 go_loopw [11,32] (fun vo vi wr=>∃ (k:Nat) (A:Option Addr) (c:Nat),k<=m/\vi=.int .i64 k/\vo=.slice A k c/\wr.ownsRow w1.heap.size 9 1 (.slice A k c) k (strs ((ls.map (fun l=>str (Al.lab l).1)).take k))/\(∀ (j:Nat) (x:List Int),j<k->ls[j]?=some x->(Al.lab x).2=0)/\Below w1.heap.size w1 wr) (fun _ vi _=>m-(intOf vi).toNat)
 case atStart=>exact⟨0,none,0,by omega,rfl,rfl,aH _ _ _ _,fun j x h=>by omega,ai _ _⟩
 case round=>
  obtain⟨k,A2,c2,hk,rfl,rfl,ho,ha,hb⟩:=hrel;have HO:=jP ho;have HA:=jP ha;have HB:=jP hb;have hsw:=hb.size;clear ho ha hb;by_cases hlt:k<m
  ·obtain⟨b,off,l,A',c',rfl,hbB,hat,hcell,hrd⟩:=(ny.1.below HB.1).row (k:=k) (by rw[pU.1];exact hlt);have hl6:=FV.1.2 l (ay hat);have HC:=jP (MR A' c' l w1.heap.size wr hrd hsw (by omega));have xH:=jP (fun he=>Gm.Q9 ls k l HA.1 hat he);have HAT:=jP hat;have HAS:=jP (fun (he:(Al.lab l).2=0)=>show ∀ (j:Nat) (x:List Int),j<k+1->ls[j]?=some x->(Al.lab x).2=0 from fun j x hj hx=>by
    by_cases e:j=k
    ·subst e;have h2:=HAT.1;rw[hx] at h2;injection h2 with h2;subst h2;exact he
    ·exact HA.1 j x (by omega) hx)
   have yX:=jP (show (ls.map (fun l=>str (Al.lab l).1)).take (k+1)=(ls.map (fun l=>str (Al.lab l).1)).take k++[str (Al.lab l).1] by
    obtain⟨q1,q2⟩:=ak.1 hat;rw[<-List.map_take,<-List.map_take,az q1,q2,gq];rfl)
   clear hat hrd hl6;generalize Al.lab l=al at *;obtain⟨a,ae⟩:=al;simp only at HC xH HAS yX;go_wp2_with fail
   refine HC.1.mono ?_;rintro e w3 ⟨rfl,hb3⟩;have mX:=jP (kD HO.1 hb3);have HB3:=jP (HB.1.trans (hb3.mono hsw));have ace:w1.heap.size<=w3.heap.size:=HB3.1.size;clear hb3 HC hcell;by_cases hae:¬ae=0
   ·have HX:=jP (show nf=([],⟨#[]⟩,ae) by rw[wJ.1,xH.1 hae,aj hae]);have hb:(ae != 0)=true:=by simpa using hae
    clear wJ xH HAS hae;go_wp2_with fail
    try simp only[Exit.inBlock,Exit.then]
    refine aS (rE rfl _ _ _) rfl ?_;exact LX.bad HX.1 (F1.1.bl.trans (HB3.1.mono (by have:=F1.1.sz;omega)))
   ·have hae:=bG.1 hae;subst hae;have Sz:=jP (HAS.1 rfl);clear xH HAS;go_wp2_with (at_builtin;refine Dq (by rfl) _ _ rfl (base:=w1.heap.size) rfl (mX.1.alloc _) rfl (qi w3 (str a)) (by omega) (by simp<;>omega) ?_)
    intro A4 c4 w4 kQ hg4 hc4;have HB4:=jP (own_below mX.1 HB3.1 _ hg4 ace);have lC:=jP (show w4.ownsRow w1.heap.size 9 1 (.slice A4 (k+1) c4) (k+1) (strs ((ls.map (fun l=>str (Al.lab l).1)).take (k+1))) by rw[yX.1];exact kQ);clear kQ hg4 hc4;go_wp2
    go_roundw
    case rel=>exact⟨k+1,A4,c4,by omega,by go_num,rfl,lC.1,Sz.1,HB4.1⟩
    case measure=>simp[intOf];omega
  ·obtain rfl:k=m:=by omega
   have hok:∀ x∈ls,(Al.lab x).2=0:=fun x hx=>by
    obtain⟨j,hj⟩:=gU.1 hx;exact HA.1 j x (by have:=(ak.1 hj).1;have:=pU.1;omega) hj
   have Zq:=Gm.Nv ls hok;rw[aP (by rw[bH,pU.1];exact ag _)] at HO;have ry:=jP (show nf=if (Sp.chk (ls.map (fun l=>str (Al.lab l).1))).2≠0 then ([],⟨#[]⟩,(Sp.chk (ls.map (fun l=>str (Al.lab l).1))).2) else (ls,Sp.nm (ls.map (fun l=>str (Al.lab l).1)),0) by rw[wJ.1,Zq,ah (by simp)]);have vM:=jP (show (ls.map (fun l=>str (Al.lab l).1)).length=k by rw[bH];exact pU.1);clear Zq hok wJ;generalize ls.map (fun l=>str (Al.lab l).1)=os at *;have hrd:=Rd.kX HO.1;have hck:=HO.1.2;have hkc:k<=c2:=by
    rcases HO.1.2 with ⟨_,h0⟩ | ⟨g,cap,cur,hv,_,_,hh,_⟩
    ·omega
    ·injection hv with _ _ hv;omega
   have HC:=jP (OO A2 c2 os wr.heap.size wr (by rw[vM.1];exact hrd) (by have:=vM.1;omega));have HC2:=jP (fun w (hr:Rd w wr.heap.size 1 A2 k (strs os)) (hb:wr.heap.size<=w.heap.size)=>name_any A2 c2 os wr.heap.size w (by rw[vM.1];exact hr) hb (by have:=vM.1;omega) (by have:=vM.1;omega));rw[vM.1] at HC HC2;have HRR:=jP hrd;clear hrd hck;generalize hck:Sp.chk os=ck at *;obtain⟨ck1,cke⟩:=ck;simp only at ry HC HC2;go_wp2_with fail
   refine HC.1.mono ?_;rintro e w9 ⟨rfl,qP⟩;subst qP;clear HC hck;by_cases hce:¬cke=0
   ·have HX:=jP (show nf=([],⟨#[]⟩,cke) by rw[ry.1,aj hce]);have hb:(cke != 0)=true:=by simpa using hce
    clear ry hce;go_wp2_with fail
    try simp only[Exit.inBlock,Exit.then]
    refine aS (rE rfl _ _ _) rfl ?_;exact LX.bad HX.1 (F1.1.bl.trans (HB.1.mono (by have:=F1.1.sz;omega)))
   ·have hce:=bG.1 hce;subst hce;have HX:=jP (show nf=(ls,Sp.nm os,0) by rw[ry.1,ah (by simp)]);clear ry;generalize Sp.nm os=nm at *;go_wp2_with fail
    refine (HC2.1 _ HRR.1 (ag _)).mono ?_;rintro e w9 ⟨rfl,nK⟩;have lQ:=jP (HB.1.trans (nK.mono hsw));clear nK;go_wp2_with fail
    try simp only[Exit.inBlock,Exit.then]
    refine aS (rE rfl _ _ _) rfl ?_;rw[HX.1];exact⟨A1,c1,0,by rw[pU.1];rfl,(ny.1.below lQ.1).more lQ.1.size,F1.1.bl.trans (lQ.1.mono (by have:=F1.1.sz;omega))⟩
end
section
variable {w:World} {B:Nat} {V:TV} {T:Gm.Tab}
theorem SG (h:j_ w B V T)(hB:B<=w.heap.size)(s:ByteArray)(hs:s.size<=1000000) :
  Calls Tryz.prog 36 #[kF V,.string s] w fun e w'=>∃ at_:Int,e=.returned (.tuple #[.string (Gm.mQ T (lst s)).2.1,.int .i64 at_,.int .i64 (Gm.mQ T (lst s)).2.2])/\Below w.heap.size w w':=by
 have F0:=jP (Fr.start h hB);clear h hB;have HC:=jP (JK F0.1.tb F0.1.hx s hs);obtain⟨x0,x1,x2,x3,x4,x5,x6,x7,x8,x9,x10,x11⟩:=F0.1.cells;go_enter Tryz.func36,Tryz.ntmps36
 go_wp2_with fail
 clear x0 x1 x2 x3 x4 x5 x6 x7 x8 x9 x10 x11;refine HC.1.mono ?_;rintro e w1 ⟨A1,c1,at1,rfl,_,hb⟩;have F1:=jP (F0.1.step hb);clear hb;go_wp2_with fail
 go_ret3
 exact⟨at1,rfl,F1.1.bl⟩
theorem Gm.ac_ (T:Gm.Tab)(hT:Gm.Good T)(s:List UInt8):(Gm.mQ T s).1.length<=5000/\∀ y∈(Gm.mQ T s).1,y.length<=1000000:=by
 unfold Gm.mQ;split;· exact⟨by simp,by simp⟩
 split;· exact⟨by simp,by simp⟩
 split;· exact⟨by simp,by simp⟩
 exact Gm.EP T hT s
theorem N7 (h:j_ w B V T)(hB:B<=w.heap.size)(s:ByteArray)(hs:s.size<=1000000) :
  Calls Tryz.prog 37 #[kF V,.string s] w fun e w'=>∃ at_:Int,e=.returned (.tuple #[.string (str (Gm.uP T (lst s)).1),.int .i64 at_,.int .i64 (Gm.uP T (lst s)).2])/\Below w.heap.size w w':=by
 have F0:=jP (Fr.start h hB);have HRW:=jP (Gm.ac_ T h.good (lst s));have HN:=jP (show Gm.uP T (lst s)=if (Gm.mQ T (lst s)).2.2≠0 then ([],(Gm.mQ T (lst s)).2.2) else Ut.enc (Sp.join (Gm.mQ T (lst s)).1) from rfl);clear h hB;have HC:=jP (JK F0.1.tb F0.1.hx s hs);generalize hnf:Gm.uP T (lst s)=nf at *;clear hnf;generalize Gm.mQ T (lst s)=a at *;obtain⟨ls,nm,ae⟩:=a;simp only at HN HC HRW;obtain⟨x0,x1,x2,x3,x4,x5,x6,x7,x8,x9,x10,x11⟩:=F0.1.cells;go_enter Tryz.func37,Tryz.ntmps37
 go_wp2_with fail
 clear x0 x1 x2 x3 x4 x5 x6 x7 x8 x9 x10 x11;refine HC.1.mono ?_;rintro e w1 ⟨A1,c1,at1,rfl,hrd,hb⟩;have F1:=jP (F0.1.step hb);have HR:=jP (show xJ w1 w1.heap.size A1 ls from hrd);clear hb HC hrd;by_cases hae:¬ae=0
 ·have HX:=jP (show nf=([],ae) by rw[HN.1,aj hae]);have hb:(ae != 0)=true:=by simpa using hae
  clear HN hae;go_wp2_with fail
  go_ret3
  rw[HX.1];exact⟨at1,rfl,F1.1.bl⟩
 have hae:=bG.1 hae;subst hae;have HX:=jP (show nf=Ut.enc (Sp.join ls) by rw[HN.1,ah (by simp)]);clear HN;have htl:=Sp.aaX ls HRW.1.2;have hl5:=HRW.1.1;have hjl:=Sp.P8 ls;have HJ:=jP (Yh A1 c1 ls w1.heap.size w1 HR.1 (ag _) (by omega) (by unfold maxLen;omega));generalize Sp.join ls=j at *;go_wp2_with fail
 refine HJ.1.mono ?_;rintro e w2 ⟨A2,c2,rfl,ho2,hb2⟩;have F2:=jP (F1.1.step hb2);have lG:=jP ho2;clear ho2 hb2 HJ;go_wp2_with fail
 refine (Il A2 j.length c2 j w2.heap.size w2 (Rd.kX lG.1) (ag _) (by omega)).mono ?_;rintro e w3 ⟨rfl,hb3⟩;have F3:=jP (F2.1.step hb3);clear hb3;go_wp2_with fail
 go_ret3
 rw[<-HX.1];exact⟨0,rfl,F3.1.bl⟩
theorem mZ {P:Program}{fn:Func}{p u:Tmp}{ty:TypeId}(h:fn.results=#[.cell p ty,.tmp u])(tmps:Array Value)(w:World)(g:Nat)(cs:Array Value)
  (hp:tmps.getD p undef=.pointer (some ⟨g,0,none⟩)) (hg:Bk w g ty cs) {fields:Array Field} (hu:P.underlying ty=some (.struct fields)) (hc:(P.info? ty).map (·.size)=some cs.size) :
  (results fn tmps).run P w=.ok (.tuple #[.agg cs,tmps.getD u undef]) w:=by
 rw[results_cell_tmp h,hp];have hl:=run_loadVar_row (P:=P) w g ty ty cs (0,0) _ hg hu rfl hc;simp[asAddr,Result.andThen,hl]
def Nm.arr (n:Nm):Array Value:=#[.string n.a,.string n.u,.string n.k]
theorem uX {x:World}{g:Nat}{a b c:Value}(h:Bk x g 30 #[a,b,c])(n:Nm):Bk (((x.setCell ⟨g,0,none⟩ (.string n.a)).setCell ⟨g,1,none⟩ (.string n.u)).setCell ⟨g,2,none⟩ (.string n.k)) g 30 n.arr:=
 ((h.kM 0 (.string n.a)).kM 1 (.string n.u)).kM 2 (.string n.k)
theorem sH {x w:World}{g:Nat}(h:Below w.heap.size w x)(hg:w.heap.size<=g)(a b c:Value):Below w.heap.size w (((x.setCell ⟨g,0,none⟩ a).setCell ⟨g,1,none⟩ b).setCell ⟨g,2,none⟩ c):=
 ((h.setCell (p:=⟨g,0,none⟩) hg a).setCell (p:=⟨g,1,none⟩) hg b).setCell (p:=⟨g,2,none⟩) hg c
theorem FC (h:j_ w B V T)(hB:B<=w.heap.size)(s:ByteArray)(hs:s.size<=1000000) :
  Calls Tryz.prog 8 #[kF V,.string s] w fun e w'=>e=.returned (.tuple #[.agg (Gm.canon T (lst s)).1.arr,.int .i64 (Gm.canon T (lst s)).2])/\Below w.heap.size w w':=by
 have F0:=jP ((Fr.start h hB).alloc (.cells #[.string ByteArray.empty,.string ByteArray.empty,.string ByteArray.empty] 30));have N0:=jP (l_ w (.cells (kK V) 26) 30 #[.string ByteArray.empty,.string ByteArray.empty,.string ByteArray.empty]);have HRW:=jP (Gm.EP T h.good (lst s));have tV:=jP (show Gm.canon T (lst s)=if (Gm.mQ T (lst s)).2.2≠0 then (Gm.lF,(Gm.mQ T (lst s)).2.2) else if (Gm.uP T (lst s)).2≠0 then (Gm.lF,(Gm.uP T (lst s)).2) else if (Gm.proc T (lst s)).1.length≠1 then (Gm.lF,21)
  else if (Gm.level T ((Gm.proc T (lst s)).1.getD 0 [])).2≠0 then (Gm.lF,(Gm.level T ((Gm.proc T (lst s)).1.getD 0 [])).2) else if 4<(Gm.level T ((Gm.proc T (lst s)).1.getD 0 [])).1 then (Gm.lF,20) else if (Gm.key T ((Gm.proc T (lst s)).1.getD 0 [])).2≠0 then (Gm.lF,(Gm.key T ((Gm.proc T (lst s)).1.getD 0 [])).2) else if (Gm.key T ((Gm.proc T (lst s)).1.getD 0 [])).1.length=0 then (Gm.lF,10)
  else (⟨(Gm.mQ T (lst s)).2.1,⟨(Gm.uP T (lst s)).1.toArray⟩,⟨(Gm.key T ((Gm.proc T (lst s)).1.getD 0 [])).1.toArray⟩⟩,0) from rfl)
 have KE:=jP (show (Gm.mQ T (lst s)).2.2=0->(Gm.proc T (lst s)).2=0 by
  unfold Gm.mQ;intro h0;by_cases hp:(Gm.proc T (lst s)).2=0
  ·exact hp
  ·rw[aj hp] at h0;exact absurd h0 hp)
 clear h hB;have HTA:=jP (SG F0.1.tb F0.1.hx s hs);have HTU:=jP (fun x (F:Fr w V T B x)=>N7 F.tb F.hx s hs);have FV:=jP (fun x (F:Fr w V T B x)=>Pg F.tb F.hx s hs);generalize hnf:Gm.canon T (lst s)=nf at *;clear hnf;generalize Gm.mQ T (lst s)=a at *;generalize Gm.uP T (lst s)=u at *;generalize Gm.proc T (lst s)=p at *;obtain⟨als,an,ae⟩:=a;obtain⟨un,ue⟩:=u;obtain⟨ls,pe⟩:=p;simp only at tV HTA HTU FV HRW KE;obtain⟨x0,x1,x2,x3,x4,x5,x6,x7,x8,x9,x10,x11⟩:=F0.1.cells;go_enter Tryz.func8,Tryz.ntmps8
 go_wp2_with fail
 clear x0 x1 x2 x3 x4 x5 x6 x7 x8 x9 x10 x11;refine HTA.1.mono ?_;rintro e w1 ⟨at1,rfl,hb⟩;have F1:=jP (F0.1.step hb);have N1:=jP (N0.1.below hb N0.1.lt);clear hb F0 N0;by_cases hae:¬ae=0
 ·have HX:=jP (show nf=(Gm.lF,ae) by rw[tV.1,aj hae]);have hb:(ae != 0)=true:=by simpa using hae
  clear tV hae;have y0:w1.cell? ⟨w.heap.size+1,0,none⟩=some (.string ByteArray.empty):=N1.1.cell 0;have y1:w1.cell? ⟨w.heap.size+1,1,none⟩=some (.string ByteArray.empty):=N1.1.cell 1;have y2:w1.cell? ⟨w.heap.size+1,2,none⟩=some (.string ByteArray.empty):=N1.1.cell 2;have f0:w1.frozen? ⟨w.heap.size+1,0,none⟩=false:=N1.1.frozen 0;have f1:w1.frozen? ⟨w.heap.size+1,1,none⟩=false:=N1.1.frozen 1;have f2:w1.frozen? ⟨w.heap.size+1,2,none⟩=false:=N1.1.frozen 2;have pV:=jP (uX N1.1 Gm.lF);have oO:=jP (sH (g:=w.heap.size+1) F1.1.bl (by omega) (.string (Gm.lF).a) (.string (Gm.lF).u) (.string (Gm.lF).k));go_wp2_with fail
  try simp only[Exit.inBlock,Exit.then]
  refine aS (mZ (P:=Tryz.prog) (p:=4) (u:=5) (ty:=30) rfl _ _ (w.heap.size+1) (Gm.lF).arr rfl pV.1 gp (by kernel_rfl)) rfl ?_;rw[HX.1];exact⟨rfl,oO.1⟩
 have hae:=bG.1 hae;subst hae;have HPE:=jP (KE.1 rfl);have wJ:=jP (show nf=if ue≠0 then (Gm.lF,ue) else if ls.length≠1 then (Gm.lF,21)
  else if (Gm.level T (ls.getD 0 [])).2≠0 then (Gm.lF,(Gm.level T (ls.getD 0 [])).2) else if 4<(Gm.level T (ls.getD 0 [])).1 then (Gm.lF,20) else if (Gm.key T (ls.getD 0 [])).2≠0 then (Gm.lF,(Gm.key T (ls.getD 0 [])).2) else if (Gm.key T (ls.getD 0 [])).1.length=0 then (Gm.lF,10)
  else (⟨an,⟨un.toArray⟩,⟨(Gm.key T (ls.getD 0 [])).1.toArray⟩⟩,0) by rw[tV.1,ah (by simp)])
 clear tV HTA KE;obtain⟨x0,x1,x2,x3,x4,x5,x6,x7,x8,x9,x10,x11⟩:=F1.1.cells;go_wp2_with fail
 clear x0 x1 x2 x3 x4 x5 x6 x7 x8 x9 x10 x11;refine (HTU.1 _ F1.1).mono ?_;rintro e w2 ⟨at2,rfl,hb⟩;have F2:=jP (F1.1.step hb);have N2:=jP (N1.1.below hb N1.1.lt);clear hb F1 N1;clear HTU;by_cases hue:¬ue=0
 ·have HX:=jP (show nf=(Gm.lF,ue) by rw[wJ.1,aj hue]);have hb:(ue != 0)=true:=by simpa using hue
  clear wJ hue;have y0:w2.cell? ⟨w.heap.size+1,0,none⟩=some (.string ByteArray.empty):=N2.1.cell 0;have y1:w2.cell? ⟨w.heap.size+1,1,none⟩=some (.string ByteArray.empty):=N2.1.cell 1;have y2:w2.cell? ⟨w.heap.size+1,2,none⟩=some (.string ByteArray.empty):=N2.1.cell 2;have f0:w2.frozen? ⟨w.heap.size+1,0,none⟩=false:=N2.1.frozen 0;have f1:w2.frozen? ⟨w.heap.size+1,1,none⟩=false:=N2.1.frozen 1;have f2:w2.frozen? ⟨w.heap.size+1,2,none⟩=false:=N2.1.frozen 2;have pV:=jP (uX N2.1 Gm.lF);have oO:=jP (sH (g:=w.heap.size+1) F2.1.bl (by omega) (.string (Gm.lF).a) (.string (Gm.lF).u) (.string (Gm.lF).k));go_wp2_with fail
  try simp only[Exit.inBlock,Exit.then]
  refine aS (mZ (P:=Tryz.prog) (p:=4) (u:=5) (ty:=30) rfl _ _ (w.heap.size+1) (Gm.lF).arr rfl pV.1 gp (by kernel_rfl)) rfl ?_;rw[HX.1];exact⟨rfl,oO.1⟩
 have hue:=bG.1 hue;subst hue;have ry:=jP (show nf=if ls.length≠1 then (Gm.lF,21)
  else if (Gm.level T (ls.getD 0 [])).2≠0 then (Gm.lF,(Gm.level T (ls.getD 0 [])).2) else if 4<(Gm.level T (ls.getD 0 [])).1 then (Gm.lF,20) else if (Gm.key T (ls.getD 0 [])).2≠0 then (Gm.lF,(Gm.key T (ls.getD 0 [])).2) else if (Gm.key T (ls.getD 0 [])).1.length=0 then (Gm.lF,10)
  else (⟨an,⟨un.toArray⟩,⟨(Gm.key T (ls.getD 0 [])).1.toArray⟩⟩,0) by rw[wJ.1,ah (by simp)])
 clear wJ;have hpe:=HPE.1;subst hpe;obtain⟨x0,x1,x2,x3,x4,x5,x6,x7,x8,x9,x10,x11⟩:=F2.1.cells;go_wp2_with fail
 clear x0 x1 x2 x3 x4 x5 x6 x7 x8 x9 x10 x11;refine (FV.1 _ F2.1).mono ?_;rintro e w3 ⟨A3,c3,vs,at3,rfl,ho,hv,hb⟩;have F3:=jP (F2.1.step hb);have N3:=jP (N2.1.below hb N2.1.lt);clear hb F2 N2;have ny:=jP (O5 ho (show tJ w3 _ _ vs ls from hv));clear FV ho hv;have hl5:=HRW.1.1;by_cases hl1:¬ls.length=1
 ·have HX:=jP (show nf=(Gm.lF,21) by rw[ry.1,aj hl1]);generalize ls.length=n at *;have hb:((n:Int) != 1)=true:=by simp;omega
  clear ry hl1;have y0:w3.cell? ⟨w.heap.size+1,0,none⟩=some (.string ByteArray.empty):=N3.1.cell 0;have y1:w3.cell? ⟨w.heap.size+1,1,none⟩=some (.string ByteArray.empty):=N3.1.cell 1;have y2:w3.cell? ⟨w.heap.size+1,2,none⟩=some (.string ByteArray.empty):=N3.1.cell 2;have f0:w3.frozen? ⟨w.heap.size+1,0,none⟩=false:=N3.1.frozen 0;have f1:w3.frozen? ⟨w.heap.size+1,1,none⟩=false:=N3.1.frozen 1;have f2:w3.frozen? ⟨w.heap.size+1,2,none⟩=false:=N3.1.frozen 2;have pV:=jP (uX N3.1 Gm.lF);have oO:=jP (sH (g:=w.heap.size+1) F3.1.bl (by omega) (.string (Gm.lF).a) (.string (Gm.lF).u) (.string (Gm.lF).k));go_wp2_with fail
  try simp only[Exit.inBlock,Exit.then]
  refine aS (mZ (P:=Tryz.prog) (p:=4) (u:=5) (ty:=30) rfl _ _ (w.heap.size+1) (Gm.lF).arr rfl pV.1 gp (by kernel_rfl)) rfl ?_;rw[HX.1];exact⟨rfl,oO.1⟩
 have hl1:=bG.1 hl1;obtain⟨l,rfl⟩:∃ l,ls=[l]:=by
  match ls,hl1 with
  | [l],_=>exact⟨l,rfl⟩
 have hll:=HRW.1.2 l (by simp);have e1:([l]:List (List Int)).length=1:=rfl;have zL:=jP (show nf=if (Gm.level T l).2≠0 then (Gm.lF,(Gm.level T l).2) else if 4<(Gm.level T l).1 then (Gm.lF,20) else if (Gm.key T l).2≠0 then (Gm.lF,(Gm.key T l).2) else if (Gm.key T l).1.length=0 then (Gm.lF,10)
  else (⟨an,⟨un.toArray⟩,⟨(Gm.key T l).1.toArray⟩⟩,0) by rw[ry.1,ah (by simp)];rfl)
 rw[e1];clear ry hl1 e1 hl5 HRW;obtain⟨b,off,l',A',c',rfl,hbB,hat,hcell,hrd⟩:=ny.1.at_ (k:=0) (by simp);have yl:l=l':=by injection hat
 subst yl;have Ce:=jP hrd;have hc3:w3.cell? ⟨b,off,none⟩=some (.slice A' l.length c'):=hcell;have VE:=jP hc3;clear hat hrd hcell ny;have HLV:=jP (fun x (F:Fr w V T B x) (hr:Rd x w3.heap.size 1 A' l.length (ints l)) (hb:w3.heap.size<=x.heap.size)=>YX (F.tb.more F.hx) (ag _) A' l.length c' l (hr.more hb) hll);have HKY:=jP (fun x (F:Fr w V T B x) (hr:Rd x w3.heap.size 1 A' l.length (ints l)) (hb:w3.heap.size<=x.heap.size)=>aa6 (F.tb.more F.hx) (ag _) A' l.length c' l (hr.more hb) hll);generalize Gm.level T l=lv at *;generalize Gm.key T l=ky at *;obtain⟨lv,le⟩:=lv;obtain⟨ky,ke⟩:=ky;simp only at zL HLV HKY;have hx0:=F3.1.drew;go_wp2_with fail
 refine aI (S:=(Fr w V T B)) (by kernel_rfl) hx0 (fun hHeld=>?_);refine tk 0 ?_;refine tk 1 ?_;refine tk 2 ?_;have hcd:w3.drew.cell? ⟨b,off,none⟩=some (.slice A' l.length c'):=hc3;refine rc 3 fun K hK=>?_;go_simp
 refine rk hK hx0 fun hHeld=>?_;clear hK K hcd;refine rc 4 fun K hK=>?_;go_simp
 refine (HLV.1 _ hx0 Ce.1.drew (ag _)).mono ?_;rintro e w4 ⟨rfl,hb4⟩;have hx1:=hx0.step hb4;have Xf:Below w3.heap.size w3 w4:=((ai w3.heap.size w3).drew).trans hb4;try go_wp2_with fail
 refine rk hK hx1 fun hHeld=>?_;clear hK K;refine tk 5 ?_;refine tk 6 ?_;refine tk 7 ?_;refine tk 8 ?_;refine tk 9 ?_;refine aJ (by kernel_rfl) ?_ _;have F4:=jP hx1;have N4:=jP ((N3.1.drew).below hb4 N3.1.lt);have aiC:=jP (Ce.1.below Xf);have hc4:w4.cell? ⟨b,off,none⟩=some (.slice A' l.length c'):=(Xf.cell (p:=⟨b,off,none⟩) hbB).trans hc3;have hs4:w3.heap.size<=w4.heap.size:=Xf.size;clear hb4 Xf hx0 hx1 hHeld F3 N3 Ce hc3 VE HLV;by_cases hle:¬le=0
 ·have HX:=jP (show nf=(Gm.lF,le) by rw[zL.1,aj hle]);have hb:(le != 0)=true:=by simpa using hle
  clear zL hle;have y0:w4.cell? ⟨w.heap.size+1,0,none⟩=some (.string ByteArray.empty):=N4.1.cell 0;have y1:w4.cell? ⟨w.heap.size+1,1,none⟩=some (.string ByteArray.empty):=N4.1.cell 1;have y2:w4.cell? ⟨w.heap.size+1,2,none⟩=some (.string ByteArray.empty):=N4.1.cell 2;have f0:w4.frozen? ⟨w.heap.size+1,0,none⟩=false:=N4.1.frozen 0;have f1:w4.frozen? ⟨w.heap.size+1,1,none⟩=false:=N4.1.frozen 1;have f2:w4.frozen? ⟨w.heap.size+1,2,none⟩=false:=N4.1.frozen 2;have pV:=jP (uX N4.1 Gm.lF);have oO:=jP (sH (g:=w.heap.size+1) F4.1.bl (by omega) (.string (Gm.lF).a) (.string (Gm.lF).u) (.string (Gm.lF).k));go_wp2_with fail
  try simp only[Exit.inBlock,Exit.then]
  refine aS (mZ (P:=Tryz.prog) (p:=4) (u:=5) (ty:=30) rfl _ _ (w.heap.size+1) (Gm.lF).arr rfl pV.1 gp (by kernel_rfl)) rfl ?_;rw[HX.1];exact⟨rfl,oO.1⟩
 have hle:=bG.1 hle;subst hle;have w_:=jP (show nf=if 4<lv then (Gm.lF,20) else if ke≠0 then (Gm.lF,ke) else if ky.length=0 then (Gm.lF,10) else (⟨an,⟨un.toArray⟩,⟨ky.toArray⟩⟩,0) by rw[zL.1,ah (by simp)]);clear zL;by_cases hl4:4<lv
 ·have HX:=jP (show nf=(Gm.lF,20) by rw[w_.1,aj hl4]);clear w_;have y0:w4.cell? ⟨w.heap.size+1,0,none⟩=some (.string ByteArray.empty):=N4.1.cell 0;have y1:w4.cell? ⟨w.heap.size+1,1,none⟩=some (.string ByteArray.empty):=N4.1.cell 1;have y2:w4.cell? ⟨w.heap.size+1,2,none⟩=some (.string ByteArray.empty):=N4.1.cell 2;have f0:w4.frozen? ⟨w.heap.size+1,0,none⟩=false:=N4.1.frozen 0;have f1:w4.frozen? ⟨w.heap.size+1,1,none⟩=false:=N4.1.frozen 1;have f2:w4.frozen? ⟨w.heap.size+1,2,none⟩=false:=N4.1.frozen 2;have pV:=jP (uX N4.1 Gm.lF);have oO:=jP (sH (g:=w.heap.size+1) F4.1.bl (by omega) (.string (Gm.lF).a) (.string (Gm.lF).u) (.string (Gm.lF).k));go_wp2_with fail
  try simp only[Exit.inBlock,Exit.then]
  refine aS (mZ (P:=Tryz.prog) (p:=4) (u:=5) (ty:=30) rfl _ _ (w.heap.size+1) (Gm.lF).arr rfl pV.1 gp (by kernel_rfl)) rfl ?_;rw[HX.1];exact⟨rfl,oO.1⟩
 have xG:=jP (show nf=if ke≠0 then (Gm.lF,ke) else if ky.length=0 then (Gm.lF,10) else (⟨an,⟨un.toArray⟩,⟨ky.toArray⟩⟩,0) by rw[w_.1,ah hl4]);clear w_;have hx0:=F4.1.drew;go_wp2_with fail
 refine aI (S:=(Fr w V T B)) (by kernel_rfl) hx0 (fun hHeld=>?_);refine tk 0 ?_;refine tk 1 ?_;refine tk 2 ?_;have hcd:w4.drew.cell? ⟨b,off,none⟩=some (.slice A' l.length c'):=hc4;refine rc 3 fun K hK=>?_;go_simp
 refine rk hK hx0 fun hHeld=>?_;clear hK K hcd;refine rc 4 fun K hK=>?_;go_simp
 refine (HKY.1 _ hx0 aiC.1.drew hs4).mono ?_;rintro e w5 ⟨rfl,hb5⟩;have hx1:=hx0.step hb5;try go_wp2_with fail
 refine rk hK hx1 fun hHeld=>?_;clear hK K;refine tk 5 ?_;refine tk 6 ?_;refine tk 7 ?_;refine tk 8 ?_;refine tk 9 ?_;refine aJ (by kernel_rfl) ?_ _;have F5:=jP hx1;have N5:=jP ((N4.1.drew).below hb5 N4.1.lt);clear hb5 hx0 hx1 hHeld F4 N4 aiC hc4 HKY;by_cases hke:¬ke=0
 ·have HX:=jP (show nf=(Gm.lF,ke) by rw[xG.1,aj hke]);have hb:(ke != 0)=true:=by simpa using hke
  clear xG hke;have y0:w5.cell? ⟨w.heap.size+1,0,none⟩=some (.string ByteArray.empty):=N5.1.cell 0;have y1:w5.cell? ⟨w.heap.size+1,1,none⟩=some (.string ByteArray.empty):=N5.1.cell 1;have y2:w5.cell? ⟨w.heap.size+1,2,none⟩=some (.string ByteArray.empty):=N5.1.cell 2;have f0:w5.frozen? ⟨w.heap.size+1,0,none⟩=false:=N5.1.frozen 0;have f1:w5.frozen? ⟨w.heap.size+1,1,none⟩=false:=N5.1.frozen 1;have f2:w5.frozen? ⟨w.heap.size+1,2,none⟩=false:=N5.1.frozen 2;have pV:=jP (uX N5.1 Gm.lF);have oO:=jP (sH (g:=w.heap.size+1) F5.1.bl (by omega) (.string (Gm.lF).a) (.string (Gm.lF).u) (.string (Gm.lF).k));go_wp2_with fail
  try simp only[Exit.inBlock,Exit.then]
  refine aS (mZ (P:=Tryz.prog) (p:=4) (u:=5) (ty:=30) rfl _ _ (w.heap.size+1) (Gm.lF).arr rfl pV.1 gp (by kernel_rfl)) rfl ?_;rw[HX.1];exact⟨rfl,oO.1⟩
 have hke:=bG.1 hke;subst hke;have qx:=jP (show nf=if ky.length=0 then (Gm.lF,10) else (⟨an,⟨un.toArray⟩,⟨ky.toArray⟩⟩,0) by rw[xG.1,ah (by simp)]);clear xG;by_cases hk0:ky.length=0
 ·have HX:=jP (show nf=(Gm.lF,10) by rw[qx.1,aj hk0]);have he:(str ky).toList.isEmpty=true:=by rw[size_empty,lT];simpa using hk0
  clear qx hk0;have y0:w5.cell? ⟨w.heap.size+1,0,none⟩=some (.string ByteArray.empty):=N5.1.cell 0;have y1:w5.cell? ⟨w.heap.size+1,1,none⟩=some (.string ByteArray.empty):=N5.1.cell 1;have y2:w5.cell? ⟨w.heap.size+1,2,none⟩=some (.string ByteArray.empty):=N5.1.cell 2;have f0:w5.frozen? ⟨w.heap.size+1,0,none⟩=false:=N5.1.frozen 0;have f1:w5.frozen? ⟨w.heap.size+1,1,none⟩=false:=N5.1.frozen 1;have f2:w5.frozen? ⟨w.heap.size+1,2,none⟩=false:=N5.1.frozen 2;have pV:=jP (uX N5.1 Gm.lF);have oO:=jP (sH (g:=w.heap.size+1) F5.1.bl (by omega) (.string (Gm.lF).a) (.string (Gm.lF).u) (.string (Gm.lF).k));go_wp2_with fail
  try simp only[Exit.inBlock,Exit.then]
  refine aS (mZ (P:=Tryz.prog) (p:=4) (u:=5) (ty:=30) rfl _ _ (w.heap.size+1) (Gm.lF).arr rfl pV.1 gp (by kernel_rfl)) rfl ?_;rw[HX.1];exact⟨rfl,oO.1⟩
 have HX:=jP (show nf=(⟨an,str un,str ky⟩,0) by rw[qx.1,ah hk0];rfl);have he:(str ky).toList.isEmpty=false:=by rw[size_empty,lT];simpa using hk0
 clear qx hk0;have y0:w5.cell? ⟨w.heap.size+1,0,none⟩=some (.string ByteArray.empty):=N5.1.cell 0;have y1:w5.cell? ⟨w.heap.size+1,1,none⟩=some (.string ByteArray.empty):=N5.1.cell 1;have y2:w5.cell? ⟨w.heap.size+1,2,none⟩=some (.string ByteArray.empty):=N5.1.cell 2;have f0:w5.frozen? ⟨w.heap.size+1,0,none⟩=false:=N5.1.frozen 0;have f1:w5.frozen? ⟨w.heap.size+1,1,none⟩=false:=N5.1.frozen 1;have f2:w5.frozen? ⟨w.heap.size+1,2,none⟩=false:=N5.1.frozen 2;have pV:=jP (uX N5.1 (⟨an,str un,str ky⟩:Nm));have oO:=jP (sH (g:=w.heap.size+1) F5.1.bl (by omega) (.string ((⟨an,str un,str ky⟩:Nm)).a) (.string ((⟨an,str un,str ky⟩:Nm)).u) (.string ((⟨an,str un,str ky⟩:Nm)).k));go_wp2_with fail
 try simp only[Exit.inBlock,Exit.then]
 refine aS (mZ (P:=Tryz.prog) (p:=4) (u:=5) (ty:=30) rfl _ _ (w.heap.size+1) ((⟨an,str un,str ky⟩:Nm)).arr rfl pV.1 gp (by kernel_rfl)) rfl ?_;rw[HX.1];exact⟨rfl,oO.1⟩
end
def Nm.cells (n:Nm):List Value:=[.string n.a,.string n.u,.string n.k]
def lq (l:List Nm):List Value:=l.flatMap Nm.cells
theorem ajo (l:List Nm):(lq l).length=l.length*3:=by
 induction l with
 | nil=>rfl
 | cons a r ih=>simp[lq,Nm.cells] at *;omega
theorem abA (l:List Nm):∀ u∈lq l,u.oneCell'=true:=by
 intro u hu;obtain⟨n,_,hn⟩:=List.mem_flatMap.1 hu;simp[Nm.cells] at hn;rcases hn with rfl | rfl | rfl<;>rfl
theorem Tq (l m:List Nm):lq (l++m)=lq l++lq m:=by simp[lq]
theorem afv:(Tryz.prog.info? 30).map (fun i=>(i.zero,i.size,i.bytes))=some (some (.agg #[.string ByteArray.empty,.string ByteArray.empty,.string ByteArray.empty]),3,48):=by kernel_rfl
theorem Rf {w:World}{ops:Array Oper}{rest:List Oper}{o:Oper}{a:Act}{Q:Exit->Act->World->Prop}(hw:Region.wanted o (yielded ops a.tmps)=true)(s x:Operand)
  (ho:o.op=.call { callee:=.builtin .append,args:=#[s,x],argTypes:=#[63,63] })
  {base:Nat} {v:Value} {n:Nat} {xs:List Nm} (hs:a.eval s=v) (hown:w.ownsRow base 30 3 v n (lq xs))
  {B:Nat} {A:Option Addr} {m c:Nat} {ys:List Nm} (hx:a.eval x=.slice A m c) (hr:Rd w B 3 A m (lq ys))
  (hlen:n+m<=1000000000) (hbase:base<=w.heap.size)
  (h:∀ A' c' w',w'.ownsRow base 30 3 (.slice A' (n+m) c') (n+m) (lq (xs++ys))->w.grownBy w' v.ownBlock ->
   ((Value.slice A' (n+m) c').ownBlock=v.ownBlock\/(Value.slice A' (n+m) c').ownBlock=some w.heap.size)->wpList Tryz.prog ops Q rest (a.put o.dst (.slice A' (n+m) c')) w') :
  wpList Tryz.prog ops Q (o::rest) a w:=by
 obtain⟨i0,hi,hz0,hz1,hz2⟩:=dR afv;refine rV hw s x _ ho base _ i0 _ 3 48 Tryz.underlying63 hi hz0 hz1 hz2 rfl (by decide) v n (lq xs) hs hown B A m c (lq ys) hx hr (abA ys)
  (by unfold maxLen;omega) (by omega) hbase ?_
 intro v' w' h2 h3 h4;obtain⟨A',c',rfl⟩:=o7 h2;rw[<-Tq] at h2;exact h A' c' w' h2 h3 h4
theorem EM {w:World}{g:Nat}{T:TypeId}{cs old:Array Value}(h:Bk w g T old):Bk (w.setRow g cs) g T cs:=setRow_heap w g old cs T _ h
theorem YF {w:World}{base g cap n size:Nat}{e:TypeId}{xs:List Value}{cur:Array Value}(hb:base<=g)(hh:Bk w g e cur)(hn:n<=cap)(hm:cap<=maxLen)(hs:cur.size=cap*size)
  (hl:xs.length=n*size) (ht:cur.toList.take (n*size)=xs):w.ownsRow base e size (.slice (some ⟨g,0,none⟩) n cap) n xs:=
 ⟨hl,.inr ⟨g,cap,cur,rfl,hb,hh,hn,hm,hs,ht⟩⟩
theorem Jq {P:Program}{fn:Func}{p u v:Tmp}{ty:TypeId}(h:fn.results=#[.tmp u,.tmp v,.cell p ty])(tmps:Array Value)(w:World)(g:Nat)(cs:Array Value)
  (hp:tmps.getD p undef=.pointer (some ⟨g,0,none⟩)) (hg:Bk w g ty cs) {fields:Array Field} (hu:P.underlying ty=some (.struct fields)) (hc:(P.info? ty).map (·.size)=some cs.size) :
  (results fn tmps).run P w=.ok (.tuple #[tmps.getD u undef,tmps.getD v undef,.agg cs]) w:=by
 have hl:=run_loadVar_row (P:=P) w g ty ty cs (0,0) _ hg hu rfl hc;have hp':tmps[p]?.getD undef=.pointer (some ⟨g,0,none⟩):=by simpa using hp
 simp only[results,h];simp[Result.andThen,hp',asAddr,hl]
def Rs.cells (r:Rs):List Value:=[.int .i64 r.err,.int .i64 r.at_,.string r.nm,.int .i64 r.rc.st,.int .i64 r.rc.ow,.string r.rc.nm,.int .i64 r.rc.dl,.int .i64 r.tk]
def Rs.arr (r:Rs):Array Value:=#[.int .i64 r.err,.int .i64 r.at_,.string r.nm,.int .i64 r.rc.st,.int .i64 r.rc.ow,.string r.rc.nm,.int .i64 r.rc.dl,.int .i64 r.tk]
@[reducible] def uz:Array Value:=#[.int .i64 0,.int .i64 0,.string ⟨#[]⟩,.int .i64 0,.int .i64 0,.string ⟨#[]⟩,.int .i64 0,.int .i64 0]
theorem KO {w:World}{g:Nat}{T:TypeId}{a0 a1 a2 a3 a4 a5 a6 a7:Value}(h:Bk w g T #[a0,a1,a2,a3,a4,a5,a6,a7])(v0 v1 v2 v3 v4 v5 v6 v7:Value):Bk ((((((((w.setCell ⟨g,0,none⟩ v0).setCell ⟨g,1,none⟩ v1).setCell ⟨g,2,none⟩ v2).setCell ⟨g,3,none⟩ v3).setCell ⟨g,4,none⟩ v4).setCell ⟨g,5,none⟩ v5).setCell ⟨g,6,none⟩ v6).setCell ⟨g,7,none⟩ v7) g T #[v0,v1,v2,v3,v4,v5,v6,v7]:=by
 have h0:Bk _ g T #[v0,a1,a2,a3,a4,a5,a6,a7]:=h.kM 0 v0;have h1:Bk _ g T #[v0,v1,a2,a3,a4,a5,a6,a7]:=h0.kM 1 v1;have h2:Bk _ g T #[v0,v1,v2,a3,a4,a5,a6,a7]:=h1.kM 2 v2;have h3:Bk _ g T #[v0,v1,v2,v3,a4,a5,a6,a7]:=h2.kM 3 v3;have h4:Bk _ g T #[v0,v1,v2,v3,v4,a5,a6,a7]:=h3.kM 4 v4;have h5:Bk _ g T #[v0,v1,v2,v3,v4,v5,a6,a7]:=h4.kM 5 v5;have h6:Bk _ g T #[v0,v1,v2,v3,v4,v5,v6,a7]:=h5.kM 6 v6;have h7:Bk _ g T #[v0,v1,v2,v3,v4,v5,v6,v7]:=h6.kM 7 v7;exact h7
theorem Q4 {w W:World}{B g:Nat}(h:Below B W w)(hg:B<=g)(v0 v1 v2 v3 v4 v5 v6 v7:Value):Below B W ((((((((w.setCell ⟨g,0,none⟩ v0).setCell ⟨g,1,none⟩ v1).setCell ⟨g,2,none⟩ v2).setCell ⟨g,3,none⟩ v3).setCell ⟨g,4,none⟩ v4).setCell ⟨g,5,none⟩ v5).setCell ⟨g,6,none⟩ v6).setCell ⟨g,7,none⟩ v7):=
 (((((((h.setCell (p:=⟨g,0,none⟩) hg v0).setCell (p:=⟨g,1,none⟩) hg v1).setCell (p:=⟨g,2,none⟩) hg v2).setCell (p:=⟨g,3,none⟩) hg v3).setCell (p:=⟨g,4,none⟩) hg v4).setCell (p:=⟨g,5,none⟩) hg v5).setCell (p:=⟨g,6,none⟩) hg v6).setCell (p:=⟨g,7,none⟩) hg v7
theorem Px {w:World}{base g:Nat}{e:TypeId}{size n:Nat}{v:Value}{xs:List Value}(h:w.ownsRow base e size v n xs)(hg:g<base)(v0 v1 v2 v3 v4 v5 v6 v7:Value):((((((((w.setCell ⟨g,0,none⟩ v0).setCell ⟨g,1,none⟩ v1).setCell ⟨g,2,none⟩ v2).setCell ⟨g,3,none⟩ v3).setCell ⟨g,4,none⟩ v4).setCell ⟨g,5,none⟩ v5).setCell ⟨g,6,none⟩ v6).setCell ⟨g,7,none⟩ v7).ownsRow base e size v n xs:=
 aQ (aQ (aQ (aQ (aQ (aQ (aQ (aQ h (a:=⟨g,0,none⟩) hg v0) (a:=⟨g,1,none⟩) hg v1) (a:=⟨g,2,none⟩) hg v2) (a:=⟨g,3,none⟩) hg v3) (a:=⟨g,4,none⟩) hg v4) (a:=⟨g,5,none⟩) hg v5) (a:=⟨g,6,none⟩) hg v6) (a:=⟨g,7,none⟩) hg v7
structure Two (p q:Addr)(u v:Value)(x:World):Prop where
 a:x.cell? p=some u
 b:x.cell? q=some v
theorem Two.conj {p q:Addr}{u v:Value}{x:World}(h:Two p q u v x):x.cell? p=some u/\x.cell? q=some v:=⟨h.a,h.b⟩
theorem Two.below {p q:Addr}{u v:Value}{x y:World}{B:Nat}(h:Two p q u v x)(hb:Below B x y)(hp:p.block<B)(hq:q.block<B):Two p q u v y:=⟨(hb.cell hp).trans h.a,(hb.cell hq).trans h.b⟩
theorem Tz (A:Option Addr)(c:Nat)(x:Nm)(B:Nat)(w:World)(hr:Rd w B 3 A 1 (lq [x])) :
  Calls Tryz.prog 67 #[.slice none 0 0,.int .i64 0,.slice A 1 c] w fun e w'=>∃ g c',e=.returned (.slice (some ⟨g,0,none⟩) 1 c')/\w'.ownsRow w.heap.size 30 3 (.slice (some ⟨g,0,none⟩) 1 c') 1 (lq [x])/\Below w.heap.size w w':=by
 have HR:=jP hr;clear hr;go_enter Tryz.func67,Tryz.ntmps67
 go_wp2_with (at_builtin;refine Rf (by rfl) _ _ rfl (base:=w.heap.size) (xs:=[]) rfl (aH _ _ _ _) rfl HR.1 (by omega) (by omega) ?_)
 intro A1 c1 w1 ho1 hg1 _;have ho1:w1.ownsRow w.heap.size 30 3 (.slice A1 1 c1) 1 (lq [x]):=ho1;have hb1:Below w.heap.size w w1:=(ai _ _).grown hg1 (ag _) (fun g h=>by cases h);obtain⟨g,rfl⟩:∃ g,A1=some ⟨g,0,none⟩:=by
  rcases ho1.2 with ⟨h,h0⟩ | ⟨g,cap,cur,hv,_⟩
  ·omega
  ·injection hv with hv;exact⟨g,hv⟩
 have HO:=jP ho1;have HB:=jP hb1;clear ho1 hg1 hb1;go_wp2
 go_ret
 exact⟨g,c1,rfl,HO.1,HB.1⟩
theorem TA (A:Option Addr)(c:Nat)(x:Int)(B:Nat)(w:World)(hr:Rd w B 1 A 1 (ints [x])) :
  Calls Tryz.prog 68 #[.slice none 0 0,.int .i64 0,.slice A 1 c] w (vG 3 [x] w):=by
 have HR:=jP hr;clear hr;go_enter Tryz.func68,Tryz.ntmps68
 go_wp2_with (at_builtin;refine kW (by rfl) _ _ rfl (base:=w.heap.size) (xs:=[]) rfl (aH _ _ _ _) rfl HR.1 (by omega) (by omega) ?_)
 intro A1 c1 w1 ho1 hg1 _;have ho1:w1.ownsRow w.heap.size 3 1 (.slice A1 1 c1) 1 (ints [x]):=ho1;have hb1:Below w.heap.size w w1:=(ai _ _).grown hg1 (ag _) (fun g h=>by cases h);have HO:=jP ho1;have HB:=jP hb1;clear ho1 hg1 hb1;go_wp2
 go_ret
 exact⟨A1,c1,rfl,HO.1,HB.1⟩
theorem Gm.WN {T:Gm.Tab}{s:ByteArray}{x:Nm}{k0:Nat}(h:Gm.make T [s]=([(x,k0)],Rs.fine)):Gm.canon T (lst s)=(x,0):=by
 have h1:=aV Prod.fst h;unfold Gm.make at h1;rw[ah (by simp),ah (by simp)] at h1;by_cases hc:(Gm.canon T s.data.toList).2=0
 ·have e:Gm.uA T 0 [s] []=([((Gm.canon T s.data.toList).1,0)],0,0):=by
   unfold Gm.uA;rw[ah (by simpa using hc)];rfl
  rw[e] at h1;simp[Gm.twin] at h1;exact Prod.ext h1.1 hc
 ·have e:(Gm.uA T 0 [s] []).2.1≠0:=by
   unfold Gm.uA;rw[aj hc];exact hc
  rw[aj e] at h1;simp at h1
theorem make_one {Vt:TV}{T:Gm.Tab}{B B' k0:Nat}{x:Nm}{w:World}{nm:List UInt8}(h:j_ w B Vt T)(hB:B<=w.heap.size)(A:Option Addr)(c:Nat)(hn:(str nm).size<=1000000)(hmk:Gm.make T [str nm]=([(x,k0)],Rs.fine))(hr:Rd w B' 1 A 1 (strs [str nm]))(hB':B'<=w.heap.size) :
  Calls Tryz.prog 23 #[kF Vt,.slice A 1 c] w fun e w'=>∃ g c' v,∃ c2:Nat,e=.returned (.tuple #[.slice (some ⟨g,0,none⟩) 1 c',v,.agg Rs.fine.arr])/\w'.ownsRow w.heap.size 30 3 (.slice (some ⟨g,0,none⟩) 1 c') 1 (lq [x])/\Below w.heap.size w w':=by
 have HC:=jP (fun (W:World) (hb:Below w.heap.size w W)=>show Calls Tryz.prog 8 #[kF Vt,.string (str nm)] W fun e w'=>e=.returned (.tuple #[.agg #[.string x.a,.string x.u,.string x.k],.int .i64 0])/\Below W.heap.size W w' by
  have:=FC (h.below (hb.mono hB)) (aK hB hb.size) (str nm) hn;rw[Gm.WN hmk] at this;exact this)
 generalize str nm=s at *;have hz:w.heap.size<(w.alloc (.cells (kK Vt) 26)).heap.size:=by simp
 have HX:=jP ((Bk.new w 26 (kK Vt)).alloc (.cells uz 43));have HN:=jP (l_ w (.cells (kK Vt) 26) 43 uz);have HB0:=jP (mP w (.cells (kK Vt) 26) (.cells uz 43));obtain⟨b,off,u,rfl,hb,hu,hcell⟩:=(((hr.more hB').alloc (ag _) (.cells (kK Vt) 26)).alloc (by simp) (.cells uz 43)).at_ (show 0<1 by omega);obtain rfl:u=.string s:=by injection hu with hu;exact hu.symm
 have hcell0:((w.alloc (.cells (kK Vt) 26)).alloc (.cells uz 43)).cell? ⟨b,off,none⟩=some (.string s):=hcell;clear hr hu hcell h hmk;go_enter Tryz.func23,Tryz.ntmps23
 go_wp2_with fail
 generalize hw2:(w.alloc (.cells (kK Vt) 26)).alloc (.cells uz 43)=w2 at *;have hs2:w2.heap.size=w.heap.size+2:=by rw[<-hw2];simp
 have hs2':w.heap.size+2<=w2.heap.size:=by omega
 clear hw2 hs2;refine fG 2 ?_;rw[dN];obtain⟨x0,x1,x2,x3,x4,x5,x6,x7,x8,x9,x10,x11⟩:=rD HX.1;go_wp2_with fail
 clear x0 x1 x2 x3 x4 x5 x6 x7 x8 x9 x10 x11 hcell0;refine (HC.1 _ HB0.1).mono ?_;rintro e w3 ⟨rfl,hb3⟩;have zL:=jP (HN.1.below hb3 HN.1.lt);have HB3:=jP (HB0.1.trans (hb3.mono (by omega)));have hs3:w.heap.size+2<=w3.heap.size:=by have:=hb3.size;omega
 clear hb3 HX HN HB0;go_wp2_with fail
 have zh:=jP (Bk.new w3 30 #[.string x.a,.string x.u,.string x.k]);have w_:=jP (zL.1.alloc (.cells #[.string x.a,.string x.u,.string x.k] 30));have HB4:=jP (HB3.1.alloc (by omega) (.cells #[.string x.a,.string x.u,.string x.k] 30));generalize hw4:w3.alloc (.cells #[.string x.a,.string x.u,.string x.k] 30)=w4 at *;have hs4:w3.heap.size<w4.heap.size:=by rw[<-hw4];simp
 clear hw4 zL HB3;refine fG 1 ?_;rw[dN];go_wp2_with fail
 go_quiet (fail)
 have k0:w4.cell? ⟨w3.heap.size,0,none⟩=some (.string x.a):=zh.1.cell 0;have k1:w4.cell? ⟨w3.heap.size,1,none⟩=some (.string x.u):=zh.1.cell 1;have k2:w4.cell? ⟨w3.heap.size,2,none⟩=some (.string x.k):=zh.1.cell 2;go_wp2_with fail
 have v_:=jP (show Rd ((w4.drewN nq).alloc (.cells #[.string x.a,.string x.u,.string x.k] 30)) (w4.heap.size+1) 3 (some ⟨w4.heap.size,0,none⟩) 1 (lq [x]) by
  have hb:=Bk.new (w4.drewN nq) 30 #[.string x.a,.string x.u,.string x.k];refine⟨rfl,fun _=>⟨w4.heap.size,0,rfl,by omega,fun j u hu=>?_⟩⟩;rw[bf,show w4.heap.size=(w4.drewN nq).heap.size from rfl,hb.cell];simpa[lq,Nm.cells] using hu)
 have xG:=jP ((w_.1.drewN nq).alloc (.cells #[.string x.a,.string x.u,.string x.k] 30));have nS:=jP ((below_drewN HB4.1 nq).alloc (by show w.heap.size<=w4.heap.size;omega) (.cells #[.string x.a,.string x.u,.string x.k] 30));have hs5:w4.heap.size<((w4.drewN nq).alloc (.cells #[.string x.a,.string x.u,.string x.k] 30)).heap.size:=by
  rw[jI];show w4.heap.size<w4.heap.size+1;omega
 clear k0 k1 k2 zh w_ HB4;refine (Tz _ 1 x _ _ v_.1).mono ?_;rintro e w6 ⟨g6,c6,rfl,kT,hb6⟩;have qx:=jP (xG.1.below hb6 xG.1.lt);have mY:=jP (nS.1.trans (hb6.mono (by omega)));have lI:=jP (lH kT (show w.heap.size+2<=_ by omega));have hs6:w4.heap.size<w6.heap.size:=by have:=hb6.size;omega
 clear kT hb6 xG nS v_ hs5;go_wp2_with fail
 have HR7:=jP (kG (w:=w6) rfl (0:Int));have RS:=jP (qx.1.alloc (.cells #[.int .i64 0] 3));have tZ:=jP (mY.1.alloc (by omega) (.cells #[.int .i64 0] 3));have mD:=jP (lI.1.alloc (.cells #[.int .i64 0] 3));refine (TA _ 1 0 _ _ HR7.1).mono ?_;rintro e w8 ⟨A8,c8,rfl,oZ,hb8⟩;have H_:=jP (RS.1.below hb8 RS.1.lt);have qM:=jP (tZ.1.trans (hb8.mono (by simp;omega)));have Dz:=jP (kD mD.1 hb8);have hs8:w6.heap.size<w8.heap.size:=by have:=hb8.size;simp at this;omega
 clear oZ hb8 qx mY lI RS tZ mD;go_wp2_with fail
 rw[dN];go_wp2_with fail
 refine fG 1 ?_;rw[dN];have y0:∀ i:Nat,w8.cell? ⟨w.heap.size+1,i,none⟩=uz[i]?:=fun i=>H_.1.cell i;have f0:∀ i:Nat,w8.frozen? ⟨w.heap.size+1,i,none⟩=false:=fun i=>H_.1.frozen i;go_wp2_with fail
 have hbk:=KO H_.1 (.int .i64 0) (.int .i64 (-1)) (.string ⟨#[]⟩) (.int .i64 0) (.int .i64 0) (.string ⟨#[]⟩) (.int .i64 0) (.int .i64 0);have hbl:=Q4 qM.1 (show w.heap.size<=w.heap.size+1 by omega) (.int .i64 0) (.int .i64 (-1)) (.string ⟨#[]⟩) (.int .i64 0) (.int .i64 0) (.string ⟨#[]⟩) (.int .i64 0) (.int .i64 0);have Zw:=Px Dz.1 (show w.heap.size+1<w.heap.size+2 by omega) (.int .i64 0) (.int .i64 (-1)) (.string ⟨#[]⟩) (.int .i64 0) (.int .i64 0) (.string ⟨#[]⟩) (.int .i64 0) (.int .i64 0);exact aS (Jq (P:=Tryz.prog) (p:=6) (u:=4) (v:=5) (ty:=43) rfl _ _ (w.heap.size+1) Rs.fine.arr rfl hbk iT (by kernel_rfl)) rfl ⟨g6,c6,_,0,rfl,lH Zw (by omega),hbl⟩
end Go.Proofs.YtkachcflifhgiaaGreatDoor
