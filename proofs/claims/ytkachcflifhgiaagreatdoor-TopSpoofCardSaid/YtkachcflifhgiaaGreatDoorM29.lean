/-           -/
import Derived.Test.YtkachcflifhgiaaGreatDoorM28
import Derived.Test.YtkachcflifhgiaaGreatDoorM02
import Derived.Deep.QuietTactic
import Derived.BigQuiet
import Derived.RegionTactic
import Derived.Test.YtkachcflifhgiaaGreatDoorAppSpanZ
import Derived.Test.YtkachcflifhgiaaGreatDoorM23
set_option linter.unusedVariables false
set_option maxRecDepth 100000
set_option maxHeartbeats 16000000
namespace Go.Proofs.YtkachcflifhgiaaGreatDoor
open Go Go.RowKit Go.Shelf
def Src (w:World)(g:Nat)(A:Option Addr)(n c i:Nat):Prop:=Bk w g 127 #[.slice A n c,.int .i64 (i:Int)]
theorem acC (A:Option Addr)(n c:Nat)(w:World) :
  Calls Tryz.prog 21 #[.slice A n c] w fun e w'=>e=.returned (.pointer (some ⟨w.heap.size,0,none⟩))/\w.alloc (.cells #[.slice A n c,.int .i64 0] 127)=w':=by
 go_enter Tryz.func21,Tryz.ntmps21
 go_wp2
 go_ret
 exact⟨rfl,rfl⟩
theorem aeG (w:World)(A:Option Addr)(n c:Nat):Src (w.alloc (.cells #[.slice A n c,.int .i64 0] 127)) w.heap.size A n c 0:=Bk.new _ _ _
def ajW (xs:List Int)(g:Nat)(A:Option Addr)(c i:Nat)(m:Int)(w:World)(e:Ending)(w':World):Prop:=
 e=.returned (.int .i64 (Kp.nx xs i m))/\Src w' g A xs.length c (Kp.ad xs i)/\w.grownBy w' (some g)
theorem next_any (g:Nat)(A:Option Addr)(c:Nat)(xs:List Int)(i:Nat)(m:Int)(h1:1<=m)(h2:m<=9223372036854775807)(B:Nat)(w:World)(hs:Src w g A xs.length c i)
  (hr:Rd w B 1 A xs.length (ints xs)) (hB:B<=g) (hl:xs.length<=maxLen) :
  Calls Tryz.prog 25 #[.pointer (some ⟨g,0,none⟩),.int .i64 m] w (ajW xs g A c i m w):=by
 unfold maxLen at hl;have c0:w.cell? ⟨g,0,none⟩=some (.slice A xs.length c):=hs.cell 0;have c1:w.cell? ⟨g,1,none⟩=some (.int .i64 (i:Int)):=hs.cell 1;have f1:w.frozen? ⟨g,1,none⟩=false:=hs.frozen 1;have HS:=jP hs;clear hs;by_cases h:i<xs.length
 ·obtain⟨b,off,u,rfl,hb,hu,hcu⟩:=jZ hr h;have e1:Kp.nx xs i m=Kp.pick u m:=by unfold Kp.nx;rw[hu]
  have e2:Kp.ad xs i=i+1:=by unfold Kp.ad;rw[aj h]
  have E1:=jP e1;have E2:=jP e2;clear e1 e2 hu hr;have hbg:¬b=g:=by omega
  have hgb:¬g=b:=by omega
  generalize hn:xs.length=n at *;have HN:=jP hn;clear hn;have hi:(i:Int)<(n:Int):=by omega
  have hi':¬(n:Int)<=(i:Int):=by omega
  go_enter Tryz.func25,Tryz.ntmps25
  go_wp2
  go_quiet (fail)
  go_wp2
  have hS2:Src ((w.drewN nq).setCell ⟨g,1,none⟩ (.int .i64 ((i:Int)+1))) g (some ⟨b,off,none⟩) n c (i+1):=by
   have:=(HS.1.drewN nq).kM 1 (.int .i64 ((i:Int)+1));simpa[Src] using this
  have hG2:w.grownBy ((w.drewN nq).setCell ⟨g,1,none⟩ (.int .i64 ((i:Int)+1))) (some g):=Py (DU (qm w _) nq) (.inl rfl) _;have hU2:((w.drewN nq).setCell ⟨g,1,none⟩ (.int .i64 ((i:Int)+1))).cell? ⟨b,off+i,none⟩=some (.int .i64 u):=by
   rw[bQ _ _ _ _ (by intro e;injection e;omega)];exact hcu
  clear hcu c0 c1 f1;generalize (w.drewN nq).setCell ⟨g,1,none⟩ (.int .i64 ((i:Int)+1))=W at *;have c0:W.cell? ⟨g,0,none⟩=some (.slice (some ⟨b,off,none⟩) n c):=hS2.cell 0;have c1:W.cell? ⟨g,1,none⟩=some (.int .i64 ((i:Int)+1)):=by have:=hS2.cell 1;simpa using this
  have HS2:=jP hS2;have HG2:=jP hG2;clear hS2 hG2 HS;go_quiet ((go_at_call 12;exact Wp (pick_any _ _ h1 h2 _)))
  go_wp2
  go_ret
  refine⟨by rw[E1.1];rfl,?_,DU HG2.1 _⟩;rw[E2.1,HN.1];exact HS2.1.drewN _
 ·have e1:Kp.nx xs i m=0:=Kp.agT xs i m h;have e2:Kp.ad xs i=i:=by unfold Kp.ad;rw[ah h]
  have E1:=jP e1;have E2:=jP e2;clear e1 e2 hr;generalize hn:xs.length=n at *;have HN:=jP hn;clear hn;have hi:(n:Int)<=(i:Int):=by omega
  go_enter Tryz.func25,Tryz.ntmps25
  go_wp2
  go_quiet (fail)
  go_wp2
  go_ret
  refine⟨by rw[E1.1];rfl,?_,DU (qm w _) _⟩;rw[E2.1,HN.1];exact HS.1.drewN _
def nC (w:World)(g:Nat):Prop:=∃ A c i B,∃ xs:List Int,Src w g A xs.length c i/\Rd w B 1 A xs.length (ints xs)/\B<=g/\xs.length<=maxLen
theorem nC.bk {w:World}{g:Nat}(h:nC w g):∃ cs,Bk w g 127 cs:=by
 obtain⟨A,c,i,B,xs,a,_⟩:=h;exact⟨_,a⟩
theorem nC.lt {w:World}{g:Nat}(h:nC w g):g<w.heap.size:=by
 obtain⟨cs,a⟩:=h.bk;exact a.lt
theorem nC.jS {w w':World}{g:Nat}{K:List Nat}(h:nC w g)(ho:jR K w w')(hg:g∉K)(hK:∀ q∈K,g<=q):nC w' g:=by
 have hlt:=h.lt;obtain⟨A,c,i,B,xs,a,b,d,e⟩:=h;refine⟨A,c,i,B,xs,Bk.jS a ho hg,b.below (ho.fresh (ai _ _) (fun q hq=>aK d (hK q hq)) (by omega)),d,e⟩
theorem nC.below {w w':World}{g:Nat}(h:nC w g)(hb:Below w.heap.size w w'):nC w' g:=h.jS (jR.below (S:=[]) hb (ag _)) (by simp) (by simp)
def ajX (g:Nat)(m:Int)(w:World)(e:Ending)(w':World):Prop:=∃ r,e=.returned (.int .i64 r)/\0<=r/\r<m/\nC w' g/\jR [g] w w'
theorem lK {w:World}{g:Nat}(h:nC w g)(m:Int)(h1:1<=m)(h2:m<=9223372036854775807) :
  Calls Tryz.prog 25 #[.pointer (some ⟨g,0,none⟩),.int .i64 m] w (ajX g m w):=by
 have hlt:=h.lt;obtain⟨A,c,i,B,xs,a,b,d,e⟩:=h;refine (next_any g A c xs i m h1 h2 B w a b d e).mono ?_;rintro e' w' ⟨rfl,hs,hg⟩;have hr1:=Kp.ajE xs i m h1;have hr2:=Kp.ajF xs i m h1;have ho:jR [g] w w':=(jR.refl [g] w).grown hg (fun q hq=>by injection hq with hq;subst hq;exact .inl (by simp));exact⟨_,rfl,hr1,hr2,⟨A,c,_,B,xs,hs,b.below (ho.fresh (ai _ _) (fun q hq=>by rw[aB.1 hq];exact d) (by omega)),d,e⟩,ho⟩
def al5 (w:World)(e:Ending)(w':World):Prop:=∃ u0 u1 u2 u3 u4 u5:Int,e=.returned (.agg #[.int .i64 u0,.int .i64 u1,.int .i64 u2,.int .i64 u3,.int .i64 u4,.int .i64 u5])/\(0<=u0/\u0<=8)/\(0<=u1/\u1<=254)/\(0<=u2/\u2<=5)/\(0<=u3/\u3<=11)/\(0<=u4/\u4<=60)/\(u5=0\/u5=1\/u5=2\/u5=4)/\Below w.heap.size w w'
theorem XU (c:Int)(hc:c∈Gm.nR)(w:World):Calls Tryz.prog 27 #[.int .i64 c] w (al5 w):=by
 simp only[Gm.nR,aN,aZ,dw] at hc;rcases hc with rfl | rfl | rfl | rfl | rfl | rfl | rfl | rfl | rfl | rfl | rfl | rfl | rfl | rfl | rfl | rfl | rfl | rfl | rfl | rfl | rfl | rfl | rfl | rfl | rfl | rfl | rfl | rfl
 all_goals
  go_enter Tryz.func27,Tryz.ntmps27
  go_wp2_with fail
  exact aS (fP (P:=Tryz.prog) (p:=2) (ty:=78) rfl _ _ w.heap.size _ _ _ _ rfl (Bk.new w _ _) Tryz.underlying78 rfl (by kernel_rfl)) rfl ⟨_,_,_,_,_,_,rfl,by omega,by omega,by omega,by omega,by omega,by omega,(ai _ _).alloc (ag _) _⟩
theorem vU {w:World}{g vb:Nat}{xs:List Int}(h:nC w g)(hv:Bk w vb 3 (ints xs).toArray)(h1:1<=xs.length)(h2:xs.length<=100) :
  Calls Tryz.prog 28 #[.pointer (some ⟨g,0,none⟩),.slice (some ⟨vb,0,none⟩) xs.length xs.length] w fun e w'=>∃ r∈xs,e=.returned (.int .i64 r)/\nC w' g/\jR [g] w w':=by
 have HS:=jP h;have HV:=jP hv;obtain⟨cs,hcs⟩:=h.bk;have HN:=jP (show vb∉[g] by simpa using Bk.ne hv hcs (by decide));clear hcs cs h hv;generalize hn:xs.length=n at *;have HL:=jP hn;clear hn;go_enter Tryz.func28,Tryz.ntmps28
 go_wp2_with fail
 refine (lK HS.1 3 (by omega) (by omega)).mono ?_;rintro e w1 ⟨r,rfl,r0,r1,hs1,ho1⟩;have Bq:=jP hs1;have nT:=jP ho1;have Bj:=jP (HV.1.jS ho1 HN.1);clear hs1 ho1;have hcell:∀ (W:World),Bk W vb 3 (ints xs).toArray->∀ k:Nat,k<n->∃ c∈xs,W.cell? ⟨vb,k,none⟩=some (.int .i64 c):=by
  intro W hW k hk;obtain⟨c,hc⟩:∃ c,xs[k]?=some c:=⟨_,au (by rw[HL.1];exact hk)⟩;exact⟨c,ay hc,rP.cell hW hc⟩
 have HC:=jP hcell;clear hcell;by_cases hr:0<r
 ·obtain⟨c,hc,x0⟩:=HC.1 w1 Bj.1 0 (by omega);have hn0:0<n:=by omega
  go_wp2_with fail
  go_ret
  exact⟨c,hc,rfl,Bq.1,nT.1⟩
 ·go_wp2_with fail
  refine (lK Bq.1 (n:Int) (by omega) (by omega)).mono ?_;rintro e w2 ⟨q,rfl,q0,q1,hs2,ho2⟩;obtain⟨k,rfl⟩:∃ k:Nat,q=(k:Int):=⟨q.toNat,by omega⟩;have hk:k<n:=by omega
  have uk:=jP (Bj.1.jS ho2 HN.1);obtain⟨c,hc,x0⟩:=HC.1 w2 uk.1 k hk;have HS2:=jP hs2;have lG:=jP (nT.1.trans ho2);clear hs2 ho2;go_wp2_with fail
  go_ret
  exact⟨c,hc,rfl,HS2.1,lG.1⟩
section
variable {P:Program} {md:Region.Mode} {ops:Array Oper} {Q:Exit->Act->World->Prop} {S:World->Prop}
theorem Au {o o':Oper}{fuel:Nat}{listed l1 l2:Array Bool}{a:Act}{w:World}(i j:Nat)(h:∀ K':Act->World->Prop,Shut (∀ a w,S w->(S w->wpAnyH P md ops Q S fuel l1 a w)->K' a w)->Oper.wp P o a w K' Q)
  (h':∀ K':Act->World->Prop,Shut (∀ a w,S w->(S w->wpAnyH P md ops Q S fuel l2 a w)->K' a w)->Oper.wp P o' a w K' Q)
  (ho:ops[i]?=some o:=by ((try simp only[bK,di,dh]);exact rfl)) (ho':ops[j]?=some o':=by ((try simp only[bK,di,dh]);exact rfl)) (hr:Region.ready md ops listed=[i,j]:=by kernel_rfl)
  (hw:Region.wanted o (yielded ops a.tmps)=true:=by rfl) (hw':Region.wanted o' (yielded ops a.tmps)=true:=by rfl)
  (hl:listed.setIfInBounds i true=l1:=by ((try simp only[ax,aF,aC]);exact rfl)) (hl':listed.setIfInBounds j true=l2:=by ((try simp only[ax,aF,aC]);exact rfl)):wpAnyH P md ops Q S (fuel+1) listed a w:=by
 subst hl;subst hl';exact wpAnyH_ready hr (by simp) (jD ho (fun K hK=>by rw[aj hw];exact h K hK) (jD ho' (fun K hK=>by rw[aj hw'];exact h' K hK) AllReadyH.nil))
end
theorem xq {w:World}(ty:TypeId){base:Nat}{v:Value}{n:Nat}{xs:List Rg.Sn}(hown:w.ownsRow base 82 3 v n (spans xs)){B:Nat}{A:Option Addr}{m c:Nat}{ys:List Rg.Sn}(hr:Rd w B 3 A m (spans ys))
  (hlen:n+m<=1000000) (hbase:base<=w.heap.size):∃ A' c' w',(Builtin.append_ #[23,23] ty #[v,.slice A m c]).run Tryz.prog w=.ok (.slice A' (n+m) c') w'/\w'.ownsRow base 82 3 (.slice A' (n+m) c') (n+m) (spans (xs++ys))/\w.grownBy w' v.ownBlock:=by
 obtain⟨i0,hi,hz0,hz1,hz2⟩:=dR MW;obtain⟨v',w',h1,h2,h3,_⟩:=wU (P:=Tryz.prog) base 23 ty 82 i0 _ 3 24 Tryz.underlying23 hi hz0 hz1 hz2 rfl (by decide) v n (spans xs) hown B A m c (spans ys) hr (EK ys) (by unfold maxLen;omega) (by omega) hbase;obtain⟨A',c',rfl⟩:=o7 h2;rw[<-Ak] at h2;exact⟨A',c',w',h1,h2,h3⟩
structure Ad (b:Nat)(x0 x1 x2:Int)(x:World):Prop where
 b0:x.cell? ⟨b,0,none⟩=some (.int .i64 x0)
 b1:x.cell? ⟨b,1,none⟩=some (.int .i64 x1)
 b2:x.cell? ⟨b,2,none⟩=some (.int .i64 x2)
section
variable {b:Nat} {x0 x1 x2:Int} {x y:World} {B:Nat}
theorem Ad.conj (h:Ad b x0 x1 x2 x):x.cell? ⟨b,0,none⟩=some (.int .i64 x0)/\x.cell? ⟨b,1,none⟩=some (.int .i64 x1)/\x.cell? ⟨b,2,none⟩=some (.int .i64 x2):=⟨h.b0,h.b1,h.b2⟩
theorem Ad.drew (h:Ad b x0 x1 x2 x):Ad b x0 x1 x2 x.drew:=⟨h.b0,h.b1,h.b2⟩
theorem Ad.of (h:Ad b x0 x1 x2 x)(hc:∀ q:Nat,y.cell? ⟨b,q,none⟩=x.cell? ⟨b,q,none⟩):Ad b x0 x1 x2 y:=⟨(hc 0).trans h.b0,(hc 1).trans h.b1,(hc 2).trans h.b2⟩
theorem Ad.below (h:Ad b x0 x1 x2 x)(hb:Below B x y)(hq:b<B):Ad b x0 x1 x2 y:=h.of fun q=>hb.cell (p:=⟨b,q,none⟩) hq
theorem Ad.far (h:Ad b x0 x1 x2 x){p:Addr}(hp:b≠p.block)(u:Value):Ad b x0 x1 x2 (x.setCell p u):=h.of fun q=>bQ x p ⟨b,q,none⟩ u (fun e=>hp (aV Addr.block e).symm)
end
def aid (p:Addr)(n:Nat)(l:List Rg.Sn)(s:Rg.Sn)(w:World)(e:Ending)(w':World):Prop:=e=.returned (.tuple #[])/\(¬0<s.v->Below w.heap.size w w') /\
 (0<s.v->∃ A' c' w2,Below w.heap.size w w2/\w2.ownsRow w.heap.size 82 3 (.slice A' (n+1) c') (n+1) (spans (l++[s]))/\w'=w2.setCell p (.slice A' (n+1) c'))
theorem add_any {w:World}{g i n c B:Nat}{A:Option Addr}{l:List Rg.Sn}(f t v0 v:Int)(hp:w.cell? ⟨g,i,none⟩=some (.slice A n c))(hfz:w.frozen? ⟨g,i,none⟩=false)(hg:g<w.heap.size)(hr:Rd w B 3 A n (spans l))(hB:B<=w.heap.size)(hn:n<=1000) :
  Calls Tryz.prog 29 #[.pointer (some ⟨g,i,none⟩),.agg #[.int .i64 f,.int .i64 t,.int .i64 v0],.int .i64 v] w (aid ⟨g,i,none⟩ n l ⟨f,t,v⟩ w):=by
 have HP:=jP hp;have HF:=jP hfz;have HG:=jP hg;have HR:=jP hr;have tY:=jP hB;clear hp hfz hg hr hB;by_cases hv:0<v
 ·have HV:=jP hv;have hal:Below w.heap.size w (w.alloc (.cells #[.int .i64 f,.int .i64 t,.int .i64 v] 82)):=(ai _ _).alloc (ag _) _;have hbx:Bk (w.alloc (.cells #[.int .i64 f,.int .i64 t,.int .i64 v] 82)) w.heap.size 82 #[.int .i64 f,.int .i64 t,.int .i64 v]:=Bk.new w _ _;have hs:Ad w.heap.size f t v (w.alloc (.cells #[.int .i64 f,.int .i64 t,.int .i64 v] 82)):=⟨hbx.cell 0,hbx.cell 1,hbx.cell 2⟩;have hsz:(w.alloc (.cells #[.int .i64 f,.int .i64 t,.int .i64 v] 82)).heap.size=w.heap.size+1:=by simp
  go_enter Tryz.func29,Tryz.ntmps29
  go_upto_region 3 with (fail)
  generalize w.alloc (.cells #[.int .i64 f,.int .i64 t,.int .i64 v] 82)=w1 at *;refine aI (S:=Ad w.heap.size f t v) (by kernel_rfl) hs.drew (fun hHeld=>?_);have hS5:Ad w.heap.size f t v w1.drew:=hs.drew;have acu:Below w.heap.size w w1.drew:=hal.drew;have hsz5:w1.drew.heap.size=w.heap.size+1:=hsz;clear hs hal hbx hsz;generalize w1.drew=w5 at *;have v_:=jP (HR.1.below (acu.mono tY.1));have hBz:=tY.1;have hgz:=HG.1;have hap:∀ W:World,Below w.heap.size w W->w.heap.size<W.heap.size->∃ A' c' w',(Builtin.append_ #[23,23] 23 #[.slice none 0 0,.slice A n c]).run Tryz.prog W=.ok (.slice A' n c') w'/\w'.ownsRow (w.heap.size+1) 82 3 (.slice A' n c') n (spans l)/\Below W.heap.size W w':=by
   intro W hW hl;obtain⟨A',c',w',h1,h2,h3⟩:=xq (w:=W) 23 (base:=w.heap.size+1) (v:=.slice none 0 0) (n:=0) (xs:=[]) (aH _ _ _ _) (HR.1.below (hW.mono tY.1)) (c:=c) (by omega) hl;rw[bf] at h1 h2;exact⟨A',c',w',h1,h2,(ai W.heap.size W).grown h3 (ag _) (fun g e=>by cases e)⟩
  have KE:=jP hap;clear hap;have nS:=jP acu;have D5:w.heap.size<w5.heap.size:=by omega
  have hno:∀ (A':Option Addr) (c':Nat) (W:World),W.ownsRow (w.heap.size+1) 82 3 (.slice A' n c') n (spans l)->(Value.slice A' n c').ownBlock≠some w.heap.size:=fun A' c' W hW e=>by
   have:=(hW.lt _ e).1;omega
  clear acu hsz5;refine tk 0 ?_;refine tk 1 ?_;refine tk 2 ?_;refine tk 5 ?_;refine Au 3 6 (fun K hK=>?_) (fun K hK=>?_)
  ·have hc5:=(nS.1.cell (p:=⟨g,i,none⟩) HG.1).trans HP.1;go_simp
   refine rk hK hS5 fun hHeld=>?_;clear hK K hc5;refine Au 4 6 (fun K hK=>?_) (fun K hK=>?_)
   ·obtain⟨A6,c6,w6,hrun,kT,hb6⟩:=KE.1 w5 nS.1 D5;refine a_ _ _ _ _ _ rfl (.slice none 0 0) (.slice A n c) rfl rfl _ _ hrun ?_;have hS6:=hS5.below hb6 D5;refine rk hK hS6 fun hHeld=>?_;clear hK K;have AU:w.heap.size<w6.heap.size:=aG D5 hb6.size;have mY:=jP (nS.1.trans (hb6.mono nS.1.size));have lI:=jP kT;clear hrun kT hb6;refine rc 6 fun K hK=>?_;go_simp
    have hal:=(ai w6.heap.size w6).alloc (ag _) (.cells #[.int .i64 f,.int .i64 t,.int .i64 v] 82);have pz:=jP (Bk.new w6 82 #[.int .i64 f,.int .i64 t,.int .i64 v]);have hS7:=hS6.below hal AU;refine rk hK hS7 fun hHeld=>?_;clear hK K;have tZ:=jP (mY.1.trans (hal.mono mY.1.size));have mD:=jP (kD lI.1 hal);obtain⟨z,hz⟩:∃ z,z=w6.heap.size:=⟨_,rfl⟩;have Qk:w.heap.size<(w6.alloc (.cells #[.int .i64 f,.int .i64 t,.int .i64 v] 82)).heap.size:=aG AU hal.size;have hwz:w.heap.size<z:=by rw[hz];exact AU
    rw[<-hz] at pz ⊢;clear hal;generalize w6.alloc (.cells #[.int .i64 f,.int .i64 t,.int .i64 v] 82)=w7 at *;clear hz;have uI:Rd w7 w7.heap.size 3 (some ⟨z,0,none⟩) 1 (spans [⟨f,t,v⟩]):=⟨rfl,fun _=>⟨z,0,rfl,pz.1.lt,fun i u hu=>by
     have hu:([.int .i64 f,.int .i64 t,.int .i64 v]:List Value)[i]?=some u:=hu;rw[pz.1.cell,bf];simpa using hu⟩⟩
    obtain⟨A8,c8,w8,hrun,oZ,nN⟩:=xq (w:=w7) 23 (base:=w.heap.size+1) mD.1 uI (c:=1) (by omega) (by omega);have hbl:Below w.heap.size w w8:=tZ.1.grown nN tZ.1.size (fun q hq=>by have:=(mD.1.lt q hq).1;omega);refine rc 7 fun K hK=>?_;refine a_ _ _ _ _ _ rfl (.slice A6 n c6) (.slice (some ⟨z,0,none⟩) 1 1) rfl rfl _ _ hrun ?_;have Dl:Ad w.heap.size f t v w8:=hS7.of (fun q=>fE (nN.block w.heap.size Qk (fun e=>hno A6 c6 w7 mD.1 e.symm)));refine rk hK Dl fun hHeld=>?_;clear hK K;have hcp:=(hbl.cell (p:=⟨g,i,none⟩) HG.1).trans HP.1;have hfp:=(hbl.frozen (p:=⟨g,i,none⟩) HG.1).trans HF.1;refine tk 8 ?_;refine rc 9 fun K hK=>?_;go_simp
    refine rk hK (Dl.far (p:=⟨g,i,none⟩) (by show w.heap.size≠g;omega) _) fun hHeld=>?_;clear hK K;refine aJ (by kernel_rfl) ?_ _;go_wp2_with fail
    go_end0
    exact⟨rfl,fun h=>absurd HV.1 h,fun _=>⟨A8,c8,w8,hbl,lH oZ (by omega),rfl⟩⟩
   ·go_simp
    have hal:=(ai w5.heap.size w5).alloc (ag _) (.cells #[.int .i64 f,.int .i64 t,.int .i64 v] 82);have nG:=jP (Bk.new w5 82 #[.int .i64 f,.int .i64 t,.int .i64 v]);have hS6:=hS5.below hal D5;refine rk hK hS6 fun hHeld=>?_;clear hK K;have mY:=jP (nS.1.trans (hal.mono nS.1.size));obtain⟨z,hz⟩:∃ z,z=w5.heap.size:=⟨_,rfl⟩;have AU:w.heap.size<(w5.alloc (.cells #[.int .i64 f,.int .i64 t,.int .i64 v] 82)).heap.size:=aG D5 hal.size;have hwz:w.heap.size<z:=by rw[hz];exact D5
    rw[<-hz] at nG ⊢;clear hal;generalize w5.alloc (.cells #[.int .i64 f,.int .i64 t,.int .i64 v] 82)=w6 at *;clear hz;refine rc 4 fun K hK=>?_;obtain⟨A6,c6,w7,hrun,kT,hb6⟩:=KE.1 w6 mY.1 AU;refine a_ _ _ _ _ _ rfl (.slice none 0 0) (.slice A n c) rfl rfl _ _ hrun ?_;have hS7:=hS6.below hb6 AU;refine rk hK hS7 fun hHeld=>?_;clear hK K;have Qk:w.heap.size<w7.heap.size:=aG AU hb6.size;have tZ:=jP (mY.1.trans (hb6.mono mY.1.size));have mD:=jP kT;have pz:=jP (nG.1.below hb6 nG.1.lt);clear hrun kT hb6;have uI:Rd w7 w7.heap.size 3 (some ⟨z,0,none⟩) 1 (spans [⟨f,t,v⟩]):=⟨rfl,fun _=>⟨z,0,rfl,pz.1.lt,fun i u hu=>by
     have hu:([.int .i64 f,.int .i64 t,.int .i64 v]:List Value)[i]?=some u:=hu;rw[pz.1.cell,bf];simpa using hu⟩⟩
    obtain⟨A8,c8,w8,hrun,oZ,nN⟩:=xq (w:=w7) 23 (base:=w.heap.size+1) mD.1 uI (c:=1) (by omega) (by omega);have hbl:Below w.heap.size w w8:=tZ.1.grown nN tZ.1.size (fun q hq=>by have:=(mD.1.lt q hq).1;omega);refine rc 7 fun K hK=>?_;refine a_ _ _ _ _ _ rfl (.slice A6 n c6) (.slice (some ⟨z,0,none⟩) 1 1) rfl rfl _ _ hrun ?_;have Dl:Ad w.heap.size f t v w8:=hS7.of (fun q=>fE (nN.block w.heap.size Qk (fun e=>hno A6 c6 w7 mD.1 e.symm)));refine rk hK Dl fun hHeld=>?_;clear hK K;have hcp:=(hbl.cell (p:=⟨g,i,none⟩) HG.1).trans HP.1;have hfp:=(hbl.frozen (p:=⟨g,i,none⟩) HG.1).trans HF.1;refine tk 8 ?_;refine rc 9 fun K hK=>?_;go_simp
    refine rk hK (Dl.far (p:=⟨g,i,none⟩) (by show w.heap.size≠g;omega) _) fun hHeld=>?_;clear hK K;refine aJ (by kernel_rfl) ?_ _;go_wp2_with fail
    go_end0
    exact⟨rfl,fun h=>absurd HV.1 h,fun _=>⟨A8,c8,w8,hbl,lH oZ (by omega),rfl⟩⟩
  ·go_simp
   have hal:=(ai w5.heap.size w5).alloc (ag _) (.cells #[.int .i64 f,.int .i64 t,.int .i64 v] 82);have nG:=jP (Bk.new w5 82 #[.int .i64 f,.int .i64 t,.int .i64 v]);have hS6:=hS5.below hal D5;refine rk hK hS6 fun hHeld=>?_;clear hK K;have mY:=jP (nS.1.trans (hal.mono nS.1.size));obtain⟨z,hz⟩:∃ z,z=w5.heap.size:=⟨_,rfl⟩;have AU:w.heap.size<(w5.alloc (.cells #[.int .i64 f,.int .i64 t,.int .i64 v] 82)).heap.size:=aG D5 hal.size;have hwz:w.heap.size<z:=by rw[hz];exact D5
   rw[<-hz] at nG ⊢;clear hal;generalize w5.alloc (.cells #[.int .i64 f,.int .i64 t,.int .i64 v] 82)=w6 at *;clear hz;refine rc 3 fun K hK=>?_;have hc6:=(mY.1.cell (p:=⟨g,i,none⟩) HG.1).trans HP.1;go_simp
   refine rk hK hS6 fun hHeld=>?_;clear hK K hc6;refine rc 4 fun K hK=>?_;obtain⟨A6,c6,w7,hrun,kT,hb6⟩:=KE.1 w6 mY.1 AU;refine a_ _ _ _ _ _ rfl (.slice none 0 0) (.slice A n c) rfl rfl _ _ hrun ?_;have hS7:=hS6.below hb6 AU;refine rk hK hS7 fun hHeld=>?_;clear hK K;have Qk:w.heap.size<w7.heap.size:=aG AU hb6.size;have tZ:=jP (mY.1.trans (hb6.mono mY.1.size));have mD:=jP kT;have pz:=jP (nG.1.below hb6 nG.1.lt);clear hrun kT hb6;have uI:Rd w7 w7.heap.size 3 (some ⟨z,0,none⟩) 1 (spans [⟨f,t,v⟩]):=⟨rfl,fun _=>⟨z,0,rfl,pz.1.lt,fun i u hu=>by
    have hu:([.int .i64 f,.int .i64 t,.int .i64 v]:List Value)[i]?=some u:=hu;rw[pz.1.cell,bf];simpa using hu⟩⟩
   obtain⟨A8,c8,w8,hrun,oZ,nN⟩:=xq (w:=w7) 23 (base:=w.heap.size+1) mD.1 uI (c:=1) (by omega) (by omega);have hbl:Below w.heap.size w w8:=tZ.1.grown nN tZ.1.size (fun q hq=>by have:=(mD.1.lt q hq).1;omega);refine rc 7 fun K hK=>?_;refine a_ _ _ _ _ _ rfl (.slice A6 n c6) (.slice (some ⟨z,0,none⟩) 1 1) rfl rfl _ _ hrun ?_;have Dl:Ad w.heap.size f t v w8:=hS7.of (fun q=>fE (nN.block w.heap.size Qk (fun e=>hno A6 c6 w7 mD.1 e.symm)));refine rk hK Dl fun hHeld=>?_;clear hK K;have hcp:=(hbl.cell (p:=⟨g,i,none⟩) HG.1).trans HP.1;have hfp:=(hbl.frozen (p:=⟨g,i,none⟩) HG.1).trans HF.1;refine tk 8 ?_;refine rc 9 fun K hK=>?_;go_simp
   refine rk hK (Dl.far (p:=⟨g,i,none⟩) (by show w.heap.size≠g;omega) _) fun hHeld=>?_;clear hK K;refine aJ (by kernel_rfl) ?_ _;go_wp2_with fail
   go_end0
   exact⟨rfl,fun h=>absurd HV.1 h,fun _=>⟨A8,c8,w8,hbl,lH oZ (by omega),rfl⟩⟩
 ·have HNV:=jP hv;go_enter Tryz.func29,Tryz.ntmps29
  go_wp2_with fail
  go_end0
  exact⟨rfl,fun _=>(ai _ _).alloc (ag _) _,fun h=>absurd h (by show ¬0<v;omega)⟩
theorem Iy (w:World):Calls Tryz.prog 26 #[] w fun e w'=>∃ b,e=.returned (.slice (some ⟨b,0,none⟩) 28 28)/\Bk w' b 3 (ints Gm.nR).toArray/\w.heap.size<=b/\Below w.heap.size w w':=by
 go_enter Tryz.func26,Tryz.ntmps26
 go_wp2_with fail
 go_ret
 exact⟨w.heap.size,rfl,Bk.new w _ _,ag _,(ai _ _).alloc (ag _) _⟩
theorem GR (b:UInt8):0<=wrap64 (b.toNat:Int)/\wrap64 (b.toNat:Int)<=128512:=by
 have h:=b.toNat_lt;rw[show wrap64 (b.toNat:Int)=(b.toNat:Int) from dH _ (by omega)];omega
theorem OU {L:List Int}(hL:∀ c∈L,0<=c/\c<=128512){W:World}{b:Nat}(h:Bk W b 3 (ints L).toArray)(k:Nat)(hk:k<L.length):∃ c,0<=c/\c<=128512/\W.cell? ⟨b,k,none⟩=some (.int .i64 c):=by
 obtain⟨c,hc⟩:∃ c,L[k]?=some c:=⟨_,au hk⟩;obtain⟨h0,h1⟩:=hL c (ay hc);exact⟨c,h0,h1,rP.cell h hc⟩
theorem ajA {W:World}{b:Nat}(h:Bk W b 3 #[.int .i64 769,.int .i64 803,.int .i64 945,.int .i64 946,.int .i64 1072,.int .i64 1488,.int .i64 1576,.int .i64 1632,.int .i64 7680,.int .i64 7681,.int .i64 7682,.int .i64 19968,.int .i64 44032,.int .i64 8204,.int .i64 2381])(k:Nat)(hk:k<15):∃ c,0<=c/\c<=128512/\W.cell? ⟨b,k,none⟩=some (.int .i64 c):=OU (L:=[769,803,945,946,1072,1488,1576,1632,7680,7681,7682,19968,44032,8204,2381]) (by decide) h k hk
theorem row4 {W:World}{b:Nat}(h:Bk W b 3 #[.int .i64 4352,.int .i64 4449,.int .i64 4520,.int .i64 46])(k:Nat)(hk:k<4):∃ c,0<=c/\c<=128512/\W.cell? ⟨b,k,none⟩=some (.int .i64 c):=OU (L:=[4352,4449,4520,46]) (by decide) h k hk
def ad8 (g:Nat)(w:World)(e:Ending)(w':World):Prop:=∃ c:Int,e=.returned (.int .i64 c)/\0<=c/\(c<=128512)/\nC w' g/\jR [g] w w'
theorem Y4 {w:World}{g:Nat}(h:nC w g):Calls Tryz.prog 35 #[.pointer (some ⟨g,0,none⟩)] w (ad8 g w):=by
 have HS0:=jP h;clear h;go_enter Tryz.func35,Tryz.ntmps35
 go_wp2_with fail
 refine (lK HS0.1 2 (by omega) (by omega)).mono ?_;rintro e vW ⟨r,rfl,r0,r1,hs1,ho1⟩;have HS:=jP hs1;have HO:=jP ho1;clear hs1 ho1 HS0;obtain rfl | rfl:r=0\/r=1:=by omega
 ·go_wp2_with fail
  refine (lK HS.1 9 (by omega) (by omega)).mono ?_;rintro e w2 ⟨r,rfl,r0,r1,hs2,ho2⟩;have HS2:=jP hs2;have lG:=jP (HO.1.trans ho2);clear hs2 ho2 HS HO;obtain rfl | rfl | rfl | rfl | rfl | rfl | rfl | rfl | rfl:r=0\/r=1\/r=2\/r=3\/r=4\/r=5\/r=6\/r=7\/r=8:=by omega
  all_goals
   go_wp2_with fail
   go_ret
   exact⟨_,rfl,(GR _).1,(GR _).2,HS2.1,lG.1⟩
 ·go_wp2_with fail
  have nS:=jP (Bk.new vW 3 #[.int .i64 769,.int .i64 803,.int .i64 945,.int .i64 946,.int .i64 1072,.int .i64 1488,.int .i64 1576,.int .i64 1632,.int .i64 7680,.int .i64 7681,.int .i64 7682,.int .i64 19968,.int .i64 44032,.int .i64 8204,.int .i64 2381]);have hal:=(ai vW.heap.size vW).alloc (ag _) (.cells #[.int .i64 769,.int .i64 803,.int .i64 945,.int .i64 946,.int .i64 1072,.int .i64 1488,.int .i64 1576,.int .i64 1632,.int .i64 7680,.int .i64 7681,.int .i64 7682,.int .i64 19968,.int .i64 44032,.int .i64 8204,.int .i64 2381] 3);have uN:=jP (HS.1.below hal);have lD:=jP (HO.1.trans (jR.below hal (ag _)));clear hal HS HO;obtain⟨z,hz⟩:∃ z,z=vW.heap.size:=⟨_,rfl⟩;rw[<-hz] at nS ⊢;generalize vW.alloc (.cells #[.int .i64 769,.int .i64 803,.int .i64 945,.int .i64 946,.int .i64 1072,.int .i64 1488,.int .i64 1576,.int .i64 1632,.int .i64 7680,.int .i64 7681,.int .i64 7682,.int .i64 19968,.int .i64 44032,.int .i64 8204,.int .i64 2381] 3)=w5 at *;clear hz;refine (lK uN.1 15 (by omega) (by omega)).mono ?_;rintro e w6 ⟨r,rfl,r0,r1,hs6,kT⟩;have o6:=jP hs6;have lI:=jP (lD.1.trans kT);obtain⟨cs,hcs⟩:=uN.1.bk;have mY:=jP (nS.1.jS kT (by simpa using Bk.ne nS.1 hcs (by decide)));clear hcs cs hs6 kT;obtain⟨k,rfl⟩:∃ k:Nat,r=(k:Int):=⟨r.toNat,by omega⟩;have hk:k<15:=by omega
  obtain⟨c,hc0,hc1,hcell⟩:=ajA mY.1 k hk;go_wp2_with fail
  go_ret
  exact⟨c,rfl,hc0,hc1,o6.1,lI.1⟩
theorem JF {w:World}{g:Nat}(h:nC w g):Calls Tryz.prog 34 #[.pointer (some ⟨g,0,none⟩)] w (ad8 g w):=by
 have HS0:=jP h;clear h;go_enter Tryz.func34,Tryz.ntmps34
 go_wp2_with fail
 refine (Iy _).mono ?_;rintro e w1 ⟨b,rfl,hbk,hbw,hb1⟩;have Bq:=jP (HS0.1.below hb1);have nT:=jP (jR.below (S:=[g]) hb1 (ag _));have HP1:=jP hbk;obtain⟨cs,hcs⟩:=Bq.1.bk;have HN:=jP (show b∉[g] by simpa using Bk.ne hbk hcs (by decide));clear hcs cs hbk hb1;go_wp2_with fail
 refine (lK Bq.1 8 (by omega) (by omega)).mono ?_;rintro e vW ⟨r,rfl,r0,r1,hs1,ho1⟩;have HS:=jP hs1;have HO:=jP (nT.1.trans ho1);have HP:=jP (HP1.1.jS ho1 HN.1);clear hs1 ho1 HS0 Bq nT HP1;by_cases hr3:r<=2
 ·have hq:∀ (W:World) (r:Int),nC W g->jR [g] w W->0<=r->r<12->True:=fun _ _ _ _ _ _=>trivial;clear hq;have key:r=0\/r=1\/r=2:=by omega
  rcases key with rfl | rfl | rfl
  all_goals
   go_wp2_with fail
   refine (lK HS.1 12 (by omega) (by omega)).mono ?_;rintro e w2 ⟨r,rfl,r0,r1,hs2,ho2⟩;have HS2:=jP hs2;have lG:=jP (HO.1.trans ho2);clear hs2 ho2 HS HO;obtain rfl | rfl | rfl | rfl | rfl | rfl | rfl | rfl | rfl | rfl | rfl | rfl:r=0\/r=1\/r=2\/r=3\/r=4\/r=5\/r=6\/r=7\/r=8\/r=9\/r=10\/r=11:=by omega
   all_goals
    go_wp2_with fail
    go_ret
    exact⟨_,rfl,(GR _).1,(GR _).2,HS2.1,lG.1⟩
 ·by_cases h3:r=3
  ·subst h3;go_wp2_with fail
   refine (lK HS.1 60 (by omega) (by omega)).mono ?_;rintro e w2 ⟨r,rfl,r0,r1,hs2,ho2⟩;have HS2:=jP hs2;have lG:=jP (HO.1.trans ho2);clear hs2 ho2 HS HO;go_wp2_with fail
   go_ret
   refine⟨_,rfl,?_,?_,HS2.1,lG.1⟩<;>(try rw[show wrap64 (44032+r)=44032+r from dH _ (by omega)])<;>omega
  ·by_cases h4:r=4
   ·subst h4;go_wp2_with fail
    have nS:=jP (Bk.new vW 3 #[.int .i64 4352,.int .i64 4449,.int .i64 4520,.int .i64 46]);have hal:=(ai vW.heap.size vW).alloc (ag _) (.cells #[.int .i64 4352,.int .i64 4449,.int .i64 4520,.int .i64 46] 3);have uN:=jP (HS.1.below hal);have lD:=jP (HO.1.trans (jR.below hal (ag _)));clear hal HS HO;obtain⟨z,hz⟩:∃ z,z=vW.heap.size:=⟨_,rfl⟩;rw[<-hz] at nS ⊢;generalize vW.alloc (.cells #[.int .i64 4352,.int .i64 4449,.int .i64 4520,.int .i64 46] 3)=w5 at *;clear hz;refine (lK uN.1 4 (by omega) (by omega)).mono ?_;rintro e w6 ⟨r,rfl,r0,r1,hs6,kT⟩;have o6:=jP hs6;have lI:=jP (lD.1.trans kT);obtain⟨cs,hcs⟩:=uN.1.bk;have mY:=jP (nS.1.jS kT (by simpa using Bk.ne nS.1 hcs (by decide)));clear hcs cs hs6 kT;obtain⟨k,rfl⟩:∃ k:Nat,r=(k:Int):=⟨r.toNat,by omega⟩;have hk:k<4:=by omega
    obtain⟨c,hc0,hc1,hcell⟩:=row4 mY.1 k hk;go_wp2_with fail
    go_ret
    exact⟨c,rfl,hc0,hc1,o6.1,lI.1⟩
   ·have f0:(r==0)=false:=by simpa using (by omega:¬r=0)
    have f1:(r==1)=false:=by simpa using (by omega:¬r=1)
    have f2:(r==2)=false:=by simpa using (by omega:¬r=2)
    have f3:(r==3)=false:=by simpa using h3
    have f4:(r==4)=false:=by simpa using h4
    clear hr3 h3 h4;go_wp2_with fail
    refine (lK HS.1 28 (by omega) (by omega)).mono ?_;rintro e w2 ⟨q,rfl,q0,q1,hs2,ho2⟩;have HS2:=jP hs2;have lG:=jP (HO.1.trans ho2);have HP2:=jP (HP.1.jS ho2 HN.1);clear hs2 ho2 HS HO;obtain⟨k,rfl⟩:∃ k:Nat,q=(k:Int):=⟨q.toNat,by omega⟩;obtain⟨c,hc0,hc1,hcell⟩:=OU (L:=Gm.nR) (by decide) HP2.1 k (by show k<28;omega);go_wp2_with fail
    go_ret
    exact⟨c,rfl,hc0,hc1,HS2.1,lG.1⟩
def ajZ (w:World)(e:Ending)(w':World):Prop:=∃ b,e=.returned (.bool b)/\w'=w
theorem MC (c:Int)(h0:0<=c)(h1:c<=128512)(w:World):Calls Tryz.prog 73 #[.int .i64 c] w (ajZ w):=by
 have h2:c<=1114111:=by omega
 by_cases h3:c<55296
 ·go_enter Tryz.func73,Tryz.ntmps73
  go_wp2_with fail
  go_ret
  exact⟨_,rfl,rfl⟩
 ·by_cases h4:57343<c
  ·go_enter Tryz.func73,Tryz.ntmps73
   go_wp2_with fail
   go_ret
   exact⟨_,rfl,rfl⟩
  ·go_enter Tryz.func73,Tryz.ntmps73
   go_wp2_with fail
   go_ret
   exact⟨_,rfl,rfl⟩
theorem YY (c:Int)(h0:0<=c)(h1:c<=128512)(w:World):Calls Tryz.prog 121 #[.int .i64 c] w fun e w'=>∃ k:Int,e=.returned (.int .i64 k)/\0<=k/\k<=4/\w'=w:=by
 go_enter Tryz.func121,Tryz.ntmps121
 go_wp2_with fail
 refine (MC c h0 h1 w).mono ?_;rintro e w1 ⟨b,rfl,rfl⟩;cases b
 ·go_wp2_with fail
  go_ret
  exact⟨_,rfl,by omega,by omega,rfl⟩
 ·by_cases h2:c<=127
  ·go_wp2_with fail
   go_ret
   exact⟨_,rfl,by omega,by omega,rfl⟩
  ·by_cases h3:c<=2047
   ·go_wp2_with fail
    go_ret
    exact⟨_,rfl,by omega,by omega,rfl⟩
   ·by_cases h4:c<=65535
    ·go_wp2_with fail
     go_ret
     exact⟨_,rfl,by omega,by omega,rfl⟩
    ·go_wp2_with fail
     go_ret
     exact⟨_,rfl,by omega,by omega,rfl⟩
theorem yU (w:World)(L:List Int)(hL:∀ x∈L,0<=x/\x<256):∃ s:ByteArray,(convert 177 9 (.slice (some ⟨w.heap.size,0,none⟩) L.length L.length)).run Tryz.prog (w.alloc (.cells (L.map (fun x=>Value.int .u8 x)).toArray 5))=.ok (.string s) (w.alloc (.cells (L.map (fun x=>Value.int .u8 x)).toArray 5))/\s.size=L.length:=by
 have hlen:(L.map (fun x=>UInt8.ofNat x.toNat)).length=L.length:=by simp
 have h:=run_convert_bytes_back (P:=Tryz.prog) (w.alloc (.cells (L.map (fun x=>Value.int .u8 x)).toArray 5)) 177 9 5 ⟨w.heap.size,0,none⟩ L.length (L.map (fun x=>UInt8.ofNat x.toNat)) dI dO dW (fun j hj=>by
  rw[LW,(Bk.new w 5 _).cell,bf];have hj':j<L.length:=by simpa using hj
  obtain⟨h0,h1⟩:=hL _ (List.getElem_mem hj');simp[hj'];omega)
 rw[hlen] at h;exact⟨_,h,by simp[ByteArray.size]⟩
theorem agS (c:Int)(h0:0<=c)(h1:c<=128512)(w:World):Calls Tryz.prog 74 #[.int .i64 c] w fun e w'=>∃ s:ByteArray,e=.returned (.string s)/\s.size<=4/\Below w.heap.size w w':=by
 go_enter Tryz.func74,Tryz.ntmps74
 go_wp2_with fail
 refine (YY c h0 h1 w).mono ?_;rintro e w1 ⟨k,rfl,k0,k1,rfl⟩;have key:k=1\/k=2\/k=3\/k=0\/k=4:=by omega
 rcases key with rfl | rfl | rfl | rfl | rfl
 ·obtain⟨s,hcv,hs⟩:=yU w1 [c%256] (by simp only[aN,aZ,dw,forall_eq];omega);have hcv:(convert 177 9 (.slice (some ⟨w1.heap.size,0,none⟩) 1 1)).run Tryz.prog (w1.alloc (.cells #[.int .u8 (c%256)] 5))=.ok (.string s) (w1.alloc (.cells #[.int .u8 (c%256)] 5)):=hcv;have HS:=jP hs;clear hs;go_wp2_with fail
  go_ret
  exact⟨_,rfl,by rw[HS.1];simp,(ai _ _).alloc (ag _) _⟩
 ·obtain⟨s,hcv,hs⟩:=yU w1 [(192+c/64)%256,128+c%64] (by simp only[aN,aZ,dw,iw,forall_eq];omega);have hcv:(convert 177 9 (.slice (some ⟨w1.heap.size,0,none⟩) 2 2)).run Tryz.prog (w1.alloc (.cells #[.int .u8 ((192+c/64)%256),.int .u8 (128+c%64)] 5))=.ok (.string s) (w1.alloc (.cells #[.int .u8 ((192+c/64)%256),.int .u8 (128+c%64)] 5)):=hcv;have HS:=jP hs;clear hs;go_wp2_with fail
  go_ret
  exact⟨_,rfl,by rw[HS.1];simp,(ai _ _).alloc (ag _) _⟩
 ·obtain⟨s,hcv,hs⟩:=yU w1 [224+c/4096,128+c/64%64,128+c%64] (by simp only[aN,aZ,dw,iw,forall_eq];omega);have hcv:(convert 177 9 (.slice (some ⟨w1.heap.size,0,none⟩) 3 3)).run Tryz.prog (w1.alloc (.cells #[.int .u8 (224+c/4096),.int .u8 (128+c/64%64),.int .u8 (128+c%64)] 5))=.ok (.string s) (w1.alloc (.cells #[.int .u8 (224+c/4096),.int .u8 (128+c/64%64),.int .u8 (128+c%64)] 5)):=hcv;have HS:=jP hs;clear hs;go_wp2_with fail
  go_ret
  exact⟨_,rfl,by rw[HS.1];simp,(ai _ _).alloc (ag _) _⟩
 ·obtain⟨s,hcv,hs⟩:=yU w1 [240+c/262144,128+c/4096%64,128+c/64%64,128+c%64] (by simp only[aN,aZ,dw,iw,forall_eq];omega);have hcv:(convert 177 9 (.slice (some ⟨w1.heap.size,0,none⟩) 4 4)).run Tryz.prog (w1.alloc (.cells #[.int .u8 (240+c/262144),.int .u8 (128+c/4096%64),.int .u8 (128+c/64%64),.int .u8 (128+c%64)] 5))=.ok (.string s) (w1.alloc (.cells #[.int .u8 (240+c/262144),.int .u8 (128+c/4096%64),.int .u8 (128+c/64%64),.int .u8 (128+c%64)] 5)):=hcv;have HS:=jP hs;clear hs;go_wp2_with fail
  go_ret
  exact⟨_,rfl,by rw[HS.1];simp,(ai _ _).alloc (ag _) _⟩
 ·obtain⟨s,hcv,hs⟩:=yU w1 [240+c/262144,128+c/4096%64,128+c/64%64,128+c%64] (by simp only[aN,aZ,dw,iw,forall_eq];omega);have hcv:(convert 177 9 (.slice (some ⟨w1.heap.size,0,none⟩) 4 4)).run Tryz.prog (w1.alloc (.cells #[.int .u8 (240+c/262144),.int .u8 (128+c/4096%64),.int .u8 (128+c/64%64),.int .u8 (128+c%64)] 5))=.ok (.string s) (w1.alloc (.cells #[.int .u8 (240+c/262144),.int .u8 (128+c/4096%64),.int .u8 (128+c/64%64),.int .u8 (128+c%64)] 5)):=hcv;have HS:=jP hs;clear hs;go_wp2_with fail
  go_ret
  exact⟨_,rfl,by rw[HS.1];simp,(ai _ _).alloc (ag _) _⟩
theorem Fh {w:World}{vb:Nat}(c:Int)(hv:Bk w vb 3 #[.int .i64 c])(h0:0<=c)(h1:c<=128512):Calls Tryz.prog 33 #[.slice (some ⟨vb,0,none⟩) 1 1] w fun e w'=>∃ (s:ByteArray) (k:Int),e=.returned (.tuple #[.string s,.int .i64 k])/\s.size<=4/\Below w.heap.size w w':=by
 have x0:w.cell? ⟨vb,0,none⟩=some (.int .i64 c):=hv.cell 0;clear hv;go_enter Tryz.func33,Tryz.ntmps33
 go_wp2_with fail
 refine fG 2 ?_;rw[dN];go_wp2_with fail
 refine (MC c h0 h1 _).mono ?_;rintro e w1 ⟨b,rfl,rfl⟩;cases b
 ·go_wp2_with fail
  go_ret2
  exact⟨_,_,rfl,by decide,ai _ _⟩
 ·go_wp2_with fail
  refine (agS c h0 h1 _).mono ?_;rintro e w2 ⟨s,rfl,hs,hb⟩;have HS:=jP hs;have HB:=jP hb;have ha:¬9223372036854775807<s.size:=by omega
  clear hs hb;go_wp2_with fail
  rw[dN];go_wp2_with fail
  go_ret2
  exact⟨_,_,rfl,by rw[fO];show 0+s.size<=4;have:=HS.1;omega,HB.1⟩
theorem ZE {w:World}{A:Option Addr}{n c B:Nat}{xs:List Int}(hr:Rd w B 1 A n (ints xs))(hB:B<=w.heap.size)(hn:n<=maxLen) :
  Calls Tryz.prog 21 #[.slice A n c] w fun e w'=>∃ g,e=.returned (.pointer (some ⟨g,0,none⟩))/\nC w' g/\w.heap.size<=g/\Below w.heap.size w w':=by
 have hl:xs.length=n:=by have:=hr.1;rw[kH] at this;omega
 subst hl;refine (acC A xs.length c w).mono ?_;rintro e w' ⟨rfl,rfl⟩;have hb:Below w.heap.size w (w.alloc (.cells #[.slice A xs.length c,.int .i64 0] 127)):=(ai _ _).alloc (ag _) _;exact⟨w.heap.size,rfl,⟨A,c,0,B,xs,aeG w A xs.length c,hr.below (hb.mono hB),hB,hn⟩,ag _,hb⟩
theorem nC.past {w w':World}{g:Nat}{W:World}(ho:jR [g] w w')(hb:Below W.heap.size W w)(hg:W.heap.size<=g):Below W.heap.size W w':=ho.fresh hb (fun q hq=>by rw[aB.1 hq];exact hg) hb.size
theorem Yn {L:List ByteArray}(hL:∀ s∈L,s.size<=13){W:World}{b:Nat}(h:Bk W b 9 (strs L).toArray)(k:Nat)(hk:k<L.length):∃ s:ByteArray,s.size<=13/\W.cell? ⟨b,k,none⟩=some (.string s):=by
 obtain⟨s,hs⟩:∃ s,L[k]?=some s:=⟨_,au hk⟩;exact⟨s,hL s (ay hs),by rw[h.cell];simp[strs,hs]⟩
theorem ajy {W:World}{b:Nat}(h:Bk W b 9 #[.string ⟨#[120,110,45,45,98,99,104,101,114,45,107,118,97]⟩,.string ⟨#[88,78,45,45,97]⟩,.string ⟨#[120,110,45,45]⟩,.string ⟨#[120,110,45,45,97,98,99,45]⟩,.string ⟨#[97,45,45,98]⟩,.string ⟨#[45,97]⟩,.string ⟨#[97,98,45,45,99]⟩,.string ⟨#[120,110,45,45,109,103,98,97]⟩])(k:Nat)(hk:k<8):∃ s:ByteArray,s.size<=13/\W.cell? ⟨b,k,none⟩=some (.string s):=Yn (L:=[⟨#[120,110,45,45,98,99,104,101,114,45,107,118,97]⟩,⟨#[88,78,45,45,97]⟩,⟨#[120,110,45,45]⟩,⟨#[120,110,45,45,97,98,99,45]⟩,⟨#[97,45,45,98]⟩,⟨#[45,97]⟩,⟨#[97,98,45,45,99]⟩,⟨#[120,110,45,45,109,103,98,97]⟩]) (by decide) h k hk
theorem ajz {W:World}{b:Nat}(h:Bk W b 9 #[.string ⟨#[195]⟩,.string ⟨#[237,160,128]⟩,.string ⟨#[]⟩,.string ⟨#[65,45,98]⟩,.string ⟨#[32]⟩,.string ⟨#[226,128,141]⟩])(k:Nat)(hk:k<6):∃ s:ByteArray,s.size<=13/\W.cell? ⟨b,k,none⟩=some (.string s):=Yn (L:=[⟨#[195]⟩,⟨#[237,160,128]⟩,⟨#[]⟩,⟨#[65,45,98]⟩,⟨#[32]⟩,⟨#[226,128,141]⟩]) (by decide) h k hk
def ah8 (m:Nat)(w:World)(e:Ending)(w':World):Prop:=∃ s:ByteArray,e=.returned (.string s)/\s.size<=m/\Below w.heap.size w w'
structure zI (W:World)(g:Nat)(s:ByteArray)(m:Nat)(w:World):Prop where
 sz:s.size<=m
 sr:nC w g
 bl:Below W.heap.size W w
 lo:W.heap.size<=g
theorem zI.jS {W w w':World}{g m:Nat}{s:ByteArray}(h:zI W g s m w)(hs:nC w' g)(ho:jR [g] w w'):zI W g s m w':=⟨h.sz,hs,nC.past ho h.bl h.lo,h.lo⟩
theorem zI.below {W w w':World}{g m:Nat}{s:ByteArray}(h:zI W g s m w)(hb:Below w.heap.size w w'):zI W g s m w':=⟨h.sz,h.sr.below hb,h.bl.trans (hb.mono h.bl.size),h.lo⟩
theorem zI.add {W w:World}{g m m':Nat}{s t:ByteArray}(h:zI W g s m w)(k:Nat)(ht:t.size<=k)(hm:m+k<=m'):zI W g (s++t) m' w:=⟨by rw[fO];have:=h.sz;omega,h.sr,h.bl,h.lo⟩
theorem zI.fit {W w:World}{g m k:Nat}{s t:ByteArray}(h:zI W g s m w)(ht:t.size<=k)(hm:m+k<=100000):¬9223372036854775807<s.size+t.size:=by have:=h.sz;omega
theorem Um {w:World}{A:Option Addr}{n c B:Nat}{xs:List Int}(hr:Rd w B 1 A n (ints xs))(hB:B<=w.heap.size)(hn:n<=maxLen) :
  Calls Tryz.prog 7 #[.slice A n c] w (ah8 100 w):=by
 have HF:=jP (ZE (c:=c) hr hB hn);clear hr hB hn;go_enter Tryz.func7,Tryz.ntmps7
 go_wp2_with fail
 refine HF.1.mono ?_;rintro e w1 ⟨g,rfl,hs,hg,hb⟩;have H1:=jP (show zI w g ⟨#[]⟩ 0 w1 from ⟨by decide,hs,hb,hg⟩);clear hs hg hb HF;go_wp2_with fail
 refine (lK H1.1.sr 3 (by omega) (by omega)).mono ?_;rintro e w2 ⟨r,rfl,r0,r1,hs,ho⟩;have H2:=jP (H1.1.jS hs ho);clear hs ho H1;obtain⟨k0,rfl⟩:∃ k:Nat,r=(k:Int):=⟨r.toNat,by omega⟩;have hw0:wrap64 ((k0:Int)+1)=(((k0+1:Nat)):Int):=by rw[dH _ (by omega)];omega
 go_wp2_with fail
 try rw[hw0]
 go_loopw [4,5] (fun vs vi wr=>∃ (k:Nat) (s:ByteArray),k<=3/\vi=.int .i64 k/\vs=.string s/\zI w g s ((3-k)*30) wr) (fun _ vi _=>(intOf vi).toNat)
 case atStart=>exact⟨k0+1,_,by omega,by first | rfl | go_num,rfl,⟨iY _,H2.1.sr,H2.1.bl,H2.1.lo⟩⟩
 case round=>
  obtain⟨k,s,hk,rfl,rfl,hI⟩:=hrel;have HI:=jP hI;clear hI;by_cases hlt:0<k
  ·have hwk:wrap64 ((k:Int)-1)=(((k-1:Nat)):Int):=by rw[dH _ (by omega)];omega
   go_wp2_with fail
   refine (lK HI.1.sr 8 (by omega) (by omega)).mono ?_;rintro e vW ⟨r,rfl,r0,r1,hs,ho⟩;have HI2:=jP (HI.1.jS hs ho);clear hs ho HI;have key:r=0\/r=1\/r=2\/r=3\/4<=r:=by omega
   rcases key with rfl | rfl | rfl | rfl | hr4
   ·go_wp2_with fail
    have nS:=jP (Bk.new vW 9 #[.string ⟨#[120,110,45,45,98,99,104,101,114,45,107,118,97]⟩,.string ⟨#[88,78,45,45,97]⟩,.string ⟨#[120,110,45,45]⟩,.string ⟨#[120,110,45,45,97,98,99,45]⟩,.string ⟨#[97,45,45,98]⟩,.string ⟨#[45,97]⟩,.string ⟨#[97,98,45,45,99]⟩,.string ⟨#[120,110,45,45,109,103,98,97]⟩]);have hal:=(ai vW.heap.size vW).alloc (ag _) (.cells #[.string ⟨#[120,110,45,45,98,99,104,101,114,45,107,118,97]⟩,.string ⟨#[88,78,45,45,97]⟩,.string ⟨#[120,110,45,45]⟩,.string ⟨#[120,110,45,45,97,98,99,45]⟩,.string ⟨#[97,45,45,98]⟩,.string ⟨#[45,97]⟩,.string ⟨#[97,98,45,45,99]⟩,.string ⟨#[120,110,45,45,109,103,98,97]⟩] 9);have kY:=jP (HI2.1.below hal);clear hal HI2;obtain⟨z,hz⟩:∃ z,z=vW.heap.size:=⟨_,rfl⟩;rw[<-hz] at nS ⊢;generalize vW.alloc (.cells #[.string ⟨#[120,110,45,45,98,99,104,101,114,45,107,118,97]⟩,.string ⟨#[88,78,45,45,97]⟩,.string ⟨#[120,110,45,45]⟩,.string ⟨#[120,110,45,45,97,98,99,45]⟩,.string ⟨#[97,45,45,98]⟩,.string ⟨#[45,97]⟩,.string ⟨#[97,98,45,45,99]⟩,.string ⟨#[120,110,45,45,109,103,98,97]⟩] 9)=w5 at *;clear hz;refine (lK kY.1.sr 8 (by omega) (by omega)).mono ?_;rintro e w6 ⟨q,rfl,q0,q1,hs6,kT⟩;have um:=jP (kY.1.jS hs6 kT);obtain⟨cs,hcs⟩:=kY.1.sr.bk;have mY:=jP (nS.1.jS kT (by simpa using Bk.ne nS.1 hcs (by decide)));clear hcs cs hs6 kT;obtain⟨j,rfl⟩:∃ j:Nat,q=(j:Int):=⟨q.toNat,by omega⟩;obtain⟨t,ht,hcell⟩:=ajy mY.1 j (by omega);have ha:¬9223372036854775807<s.size+t.size:=um.1.fit ht (by omega);have lN:=jP (um.1.add (m':=(3-k)*30+13) 13 ht (by omega));have hms:=lN.1.sz;have ha1:¬9223372036854775807<s.size+t.size+1:=by first | omega | (rw[fO] at hms;omega)
    by_cases h1:1<k
    ·go_wp2_with fail
     go_roundw
     case rel=>exact⟨k-1,_,by omega,by first | go_num | (congr 1;omega),rfl,(lN.1.add (t:=⟨#[46]⟩) 1 (by decide) (by omega))⟩
     case measure=>simp only[intOf]<;>omega
    ·go_wp2_with fail
     go_roundw
     case rel=>exact⟨k-1,_,by omega,by first | go_num | (congr 1;omega),rfl,⟨by have:=lN.1.sz;omega,lN.1.sr,lN.1.bl,lN.1.lo⟩⟩
     case measure=>simp only[intOf]<;>omega
   ·go_wp2_with fail
    have nS:=jP (Bk.new vW 9 #[.string ⟨#[195]⟩,.string ⟨#[237,160,128]⟩,.string ⟨#[]⟩,.string ⟨#[65,45,98]⟩,.string ⟨#[32]⟩,.string ⟨#[226,128,141]⟩]);have hal:=(ai vW.heap.size vW).alloc (ag _) (.cells #[.string ⟨#[195]⟩,.string ⟨#[237,160,128]⟩,.string ⟨#[]⟩,.string ⟨#[65,45,98]⟩,.string ⟨#[32]⟩,.string ⟨#[226,128,141]⟩] 9);have kY:=jP (HI2.1.below hal);clear hal HI2;obtain⟨z,hz⟩:∃ z,z=vW.heap.size:=⟨_,rfl⟩;rw[<-hz] at nS ⊢;generalize vW.alloc (.cells #[.string ⟨#[195]⟩,.string ⟨#[237,160,128]⟩,.string ⟨#[]⟩,.string ⟨#[65,45,98]⟩,.string ⟨#[32]⟩,.string ⟨#[226,128,141]⟩] 9)=w5 at *;clear hz;refine (lK kY.1.sr 6 (by omega) (by omega)).mono ?_;rintro e w6 ⟨q,rfl,q0,q1,hs6,kT⟩;have um:=jP (kY.1.jS hs6 kT);obtain⟨cs,hcs⟩:=kY.1.sr.bk;have mY:=jP (nS.1.jS kT (by simpa using Bk.ne nS.1 hcs (by decide)));clear hcs cs hs6 kT;obtain⟨j,rfl⟩:∃ j:Nat,q=(j:Int):=⟨q.toNat,by omega⟩;obtain⟨t,ht,hcell⟩:=ajz mY.1 j (by omega);have ha:¬9223372036854775807<s.size+t.size:=um.1.fit ht (by omega);have lN:=jP (um.1.add (m':=(3-k)*30+13) 13 ht (by omega));have hms:=lN.1.sz;have ha1:¬9223372036854775807<s.size+t.size+1:=by first | omega | (rw[fO] at hms;omega)
    by_cases h1:1<k
    ·go_wp2_with fail
     go_roundw
     case rel=>exact⟨k-1,_,by omega,by first | go_num | (congr 1;omega),rfl,(lN.1.add (t:=⟨#[46]⟩) 1 (by decide) (by omega))⟩
     case measure=>simp only[intOf]<;>omega
    ·go_wp2_with fail
     go_roundw
     case rel=>exact⟨k-1,_,by omega,by first | go_num | (congr 1;omega),rfl,⟨by have:=lN.1.sz;omega,lN.1.sr,lN.1.bl,lN.1.lo⟩⟩
     case measure=>simp only[intOf]<;>omega
   ·go_wp2_with fail
    refine (lK HI2.1.sr 4 (by omega) (by omega)).mono ?_;rintro e w5 ⟨q,rfl,q0,q1,hs5,oK⟩;have kY:=jP (HI2.1.jS hs5 oK);clear hs5 oK HI2;obtain⟨j0,rfl⟩:∃ j:Nat,q=(j:Int):=⟨q.toNat,by omega⟩;have UT:wrap64 ((j0:Int)+1)=(((j0+1:Nat)):Int):=by rw[dH _ (by omega)];omega
    go_wp2_with fail
    try rw[UT]
    go_loopw [4,6] (fun vs vi wt=>∃ (j:Nat) (u:ByteArray),j<=4/\vi=.int .i64 j/\vs=.string u/\zI w g u ((3-k)*30+(4-j)*4) wt) (fun _ vi _=>(intOf vi).toNat)
    case atStart=>exact⟨j0+1,_,by omega,by first | rfl | go_num,rfl,⟨by have:=kY.1.sz;omega,kY.1.sr,kY.1.bl,kY.1.lo⟩⟩
    case round=>
     obtain⟨j,u,hj,rfl,rfl,hI⟩:=hrel;obtain⟨wt,rfl⟩:∃ wt:World,wt=wr:=⟨_,rfl⟩;have HJ:=jP hI;clear hI;by_cases hjl:0<j
     ·have ag9:wrap64 ((j:Int)-1)=(((j-1:Nat)):Int):=by rw[dH _ (by omega)];omega
      go_wp2_with fail
      refine (JF HJ.1.sr).mono ?_;rintro e w6 ⟨c6,rfl,c0,c1,hs6,kT⟩;have NR:=jP (HJ.1.jS hs6 kT);clear hs6 kT HJ;go_wp2_with fail
      have mY:=jP (Bk.new w6 3 #[.int .i64 c6]);have hal:=(ai w6.heap.size w6).alloc (ag _) (.cells #[.int .i64 c6] 3);have NQ:=jP (NR.1.below hal);clear hal NR;generalize w6.alloc (.cells #[.int .i64 c6] 3)=w7 at *;refine (Fh c6 mY.1 c0 c1).mono ?_;rintro e w8 ⟨t,ek,rfl,ht,hb8⟩;have NP:=jP (NQ.1.below hb8);clear hb8 NQ mY;have ha:¬9223372036854775807<u.size+t.size:=NP.1.fit ht (by omega);have HJ9:=jP (NP.1.add (m':=(3-k)*30+(4-(j-1))*4) 4 ht (by omega));clear ht;go_wp2_with fail
      go_roundw
      case rel=>exact⟨j-1,_,by omega,by first | go_num | (congr 1;omega),rfl,HJ9.1⟩
      case measure=>simp only[intOf]<;>omega
     ·obtain rfl:j=0:=by omega
      have lN:=jP HJ.1;clear HJ;have hms:=lN.1.sz;have ha1:¬9223372036854775807<u.size+1:=by first | omega | (rw[fO] at hms;omega)
      by_cases h1:1<k
      ·go_wp2_with fail
       go_roundw
       case rel=>exact⟨k-1,_,by omega,by first | go_num | (congr 1;omega),rfl,(lN.1.add (t:=⟨#[46]⟩) 1 (by decide) (by omega))⟩
       case measure=>simp only[intOf]<;>omega
      ·go_wp2_with fail
       go_roundw
       case rel=>exact⟨k-1,_,by omega,by first | go_num | (congr 1;omega),rfl,⟨by have:=lN.1.sz;omega,lN.1.sr,lN.1.bl,lN.1.lo⟩⟩
       case measure=>simp only[intOf]<;>omega
   ·go_wp2_with fail
    refine (lK HI2.1.sr 4 (by omega) (by omega)).mono ?_;rintro e w5 ⟨q,rfl,q0,q1,hs5,oK⟩;have kY:=jP (HI2.1.jS hs5 oK);clear hs5 oK HI2;obtain⟨j0,rfl⟩:∃ j:Nat,q=(j:Int):=⟨q.toNat,by omega⟩;have UT:wrap64 ((j0:Int)+1)=(((j0+1:Nat)):Int):=by rw[dH _ (by omega)];omega
    go_wp2_with fail
    try rw[UT]
    go_loopw [4,6] (fun vs vi wt=>∃ (j:Nat) (u:ByteArray),j<=4/\vi=.int .i64 j/\vs=.string u/\zI w g u ((3-k)*30+(4-j)*4) wt) (fun _ vi _=>(intOf vi).toNat)
    case atStart=>exact⟨j0+1,_,by omega,by first | rfl | go_num,rfl,⟨by have:=kY.1.sz;omega,kY.1.sr,kY.1.bl,kY.1.lo⟩⟩
    case round=>
     obtain⟨j,u,hj,rfl,rfl,hI⟩:=hrel;obtain⟨wt,rfl⟩:∃ wt:World,wt=wr:=⟨_,rfl⟩;have HJ:=jP hI;clear hI;by_cases hjl:0<j
     ·have ag9:wrap64 ((j:Int)-1)=(((j-1:Nat)):Int):=by rw[dH _ (by omega)];omega
      go_wp2_with fail
      refine (JF HJ.1.sr).mono ?_;rintro e w6 ⟨c6,rfl,c0,c1,hs6,kT⟩;have NR:=jP (HJ.1.jS hs6 kT);clear hs6 kT HJ;go_wp2_with fail
      have mY:=jP (Bk.new w6 3 #[.int .i64 c6]);have hal:=(ai w6.heap.size w6).alloc (ag _) (.cells #[.int .i64 c6] 3);have NQ:=jP (NR.1.below hal);clear hal NR;generalize w6.alloc (.cells #[.int .i64 c6] 3)=w7 at *;refine (Fh c6 mY.1 c0 c1).mono ?_;rintro e w8 ⟨t,ek,rfl,ht,hb8⟩;have NP:=jP (NQ.1.below hb8);clear hb8 NQ mY;have ha:¬9223372036854775807<u.size+t.size:=NP.1.fit ht (by omega);have HJ9:=jP (NP.1.add (m':=(3-k)*30+(4-(j-1))*4) 4 ht (by omega));clear ht;go_wp2_with fail
      go_roundw
      case rel=>exact⟨j-1,_,by omega,by first | go_num | (congr 1;omega),rfl,HJ9.1⟩
      case measure=>simp only[intOf]<;>omega
     ·obtain rfl:j=0:=by omega
      have lN:=jP HJ.1;clear HJ;have hms:=lN.1.sz;have ha1:¬9223372036854775807<u.size+1:=by first | omega | (rw[fO] at hms;omega)
      by_cases h1:1<k
      ·go_wp2_with fail
       go_roundw
       case rel=>exact⟨k-1,_,by omega,by first | go_num | (congr 1;omega),rfl,(lN.1.add (t:=⟨#[46]⟩) 1 (by decide) (by omega))⟩
       case measure=>simp only[intOf]<;>omega
      ·go_wp2_with fail
       go_roundw
       case rel=>exact⟨k-1,_,by omega,by first | go_num | (congr 1;omega),rfl,⟨by have:=lN.1.sz;omega,lN.1.sr,lN.1.bl,lN.1.lo⟩⟩
       case measure=>simp only[intOf]<;>omega
   ·have f0:(r==0)=false:=by simpa using (by omega:¬r=0)
    have f1:(r==1)=false:=by simpa using (by omega:¬r=1)
    have f2:(r==2)=false:=by simpa using (by omega:¬r=2)
    have f3:(r==3)=false:=by simpa using (by omega:¬r=3)
    go_wp2_with fail
    refine (lK HI2.1.sr 5 (by omega) (by omega)).mono ?_;rintro e w5 ⟨q,rfl,q0,q1,hs5,oK⟩;have kY:=jP (HI2.1.jS hs5 oK);clear hs5 oK HI2;obtain⟨j0,rfl⟩:∃ j:Nat,q=(j:Int):=⟨q.toNat,by omega⟩;have UT:wrap64 ((j0:Int)+1)=(((j0+1:Nat)):Int):=by rw[dH _ (by omega)];omega
    go_wp2_with fail
    try rw[UT]
    go_loopw [4,9] (fun vs vi wt=>∃ (j:Nat) (u:ByteArray),j<=5/\vi=.int .i64 j/\vs=.string u/\zI w g u ((3-k)*30+(5-j)*4) wt) (fun _ vi _=>(intOf vi).toNat)
    case atStart=>exact⟨j0+1,_,by omega,by first | rfl | go_num,rfl,⟨by have:=kY.1.sz;omega,kY.1.sr,kY.1.bl,kY.1.lo⟩⟩
    case round=>
     obtain⟨j,u,hj,rfl,rfl,hI⟩:=hrel;obtain⟨wt,rfl⟩:∃ wt:World,wt=wr:=⟨_,rfl⟩;have HJ:=jP hI;clear hI;by_cases hjl:0<j
     ·have ag9:wrap64 ((j:Int)-1)=(((j-1:Nat)):Int):=by rw[dH _ (by omega)];omega
      go_wp2_with fail
      refine (Y4 HJ.1.sr).mono ?_;rintro e w6 ⟨c6,rfl,c0,c1,hs6,kT⟩;have NR:=jP (HJ.1.jS hs6 kT);clear hs6 kT HJ;go_wp2_with fail
      have mY:=jP (Bk.new w6 3 #[.int .i64 c6]);have hal:=(ai w6.heap.size w6).alloc (ag _) (.cells #[.int .i64 c6] 3);have NQ:=jP (NR.1.below hal);clear hal NR;generalize w6.alloc (.cells #[.int .i64 c6] 3)=w7 at *;refine (Fh c6 mY.1 c0 c1).mono ?_;rintro e w8 ⟨t,ek,rfl,ht,hb8⟩;have NP:=jP (NQ.1.below hb8);clear hb8 NQ mY;have ha:¬9223372036854775807<u.size+t.size:=NP.1.fit ht (by omega);have HJ9:=jP (NP.1.add (m':=(3-k)*30+(5-(j-1))*4) 4 ht (by omega));clear ht;go_wp2_with fail
      go_roundw
      case rel=>exact⟨j-1,_,by omega,by first | go_num | (congr 1;omega),rfl,HJ9.1⟩
      case measure=>simp only[intOf]<;>omega
     ·obtain rfl:j=0:=by omega
      have lN:=jP HJ.1;clear HJ;have hms:=lN.1.sz;have ha1:¬9223372036854775807<u.size+1:=by first | omega | (rw[fO] at hms;omega)
      by_cases h1:1<k
      ·go_wp2_with fail
       go_roundw
       case rel=>exact⟨k-1,_,by omega,by first | go_num | (congr 1;omega),rfl,(lN.1.add (t:=⟨#[46]⟩) 1 (by decide) (by omega))⟩
       case measure=>simp only[intOf]<;>omega
      ·go_wp2_with fail
       go_roundw
       case rel=>exact⟨k-1,_,by omega,by first | go_num | (congr 1;omega),rfl,⟨by have:=lN.1.sz;omega,lN.1.sr,lN.1.bl,lN.1.lo⟩⟩
       case measure=>simp only[intOf]<;>omega
  ·obtain rfl:k=0:=by omega
   go_wp2_with fail
   go_ret
   exact⟨s,rfl,by have:=HI.1.sz;omega,HI.1.bl⟩
theorem Ah (s:Rg.Sn)(l:List Rg.Sn)(c:Int):Gm.val (s::l) c=if s.f<=c/\c<=s.t then s.v else Gm.val l c:=by
 unfold Gm.val Rg.val;by_cases h:s.f<=c/\c<=s.t
 ·rw[jw (by simp[Rg.Ht,h.1,h.2]),aj h];rfl
 ·rw[gz (by simp only[Rg.Ht];simpa using h),ah h]
theorem V_ {w:World}{B n c0:Nat}{A:Option Addr}{l:List Rg.Sn}(hr:Rd w B 3 A n (spans l))(hB:B<=w.heap.size)(hn:n<=100000)(c:Int) :
  Calls Tryz.prog 120 #[.slice A n c0,.int .i64 c] w fun e w'=>e=.returned (.int .i64 (Gm.val l c))/\Below w.heap.size w w':=by
 have HR:=jP hr;have tY:=jP hB;have HL:=jP (qO hr);clear hr hB;go_enter Tryz.func120,Tryz.ntmps120
 go_wp2_with fail
 go_loopw [9] (fun vi wr=>∃ j:Nat,j<=n/\vi=.int .i64 j/\Gm.val l c=Gm.val (l.drop j) c/\Below w.heap.size w wr) (fun vi _=>n-(intOf vi).toNat)
 case atStart=>exact⟨0,by omega,rfl,rfl,ai _ _⟩
 case round=>
  obtain⟨j,hj,rfl,hv,hb⟩:=hrel;have HV:=jP hv;have HW:=jP hb;clear hv hb;by_cases hlt:j<n
  ·obtain⟨b,off,s,rfl,hbB,hs,x0,x1,x2⟩:=rX (HR.1.below (HW.1.mono tY.1)) hlt;have hd:l.drop j=s::l.drop (j+1):=by
    obtain⟨h1,h2⟩:=ak.1 hs;rw[bP h1,h2]
   have HVC:=jP (HV.1.trans ((aV (fun q=>Gm.val q c) hd).trans (Ah s _ c)));clear hd HV hs;have hal:=(ai wr.heap.size wr).alloc (ag _) (.cells #[.int .i64 s.f,.int .i64 s.t,.int .i64 s.v] 82);have HW2:=jP (HW.1.trans (hal.mono HW.1.size));clear hal;by_cases h1:s.f<=c
   ·by_cases h2:c<=s.t
    ·go_wp2_with fail
     go_ret
     exact⟨by rw[HVC.1,aj ⟨h1,h2⟩];rfl,HW2.1⟩
    ·go_wp2_with fail
     go_roundw
     case rel=>exact⟨j+1,by omega,by go_num,by rw[HVC.1,ah (fun h=>h2 h.2)],HW2.1⟩
     case measure=>simp only[intOf]<;>omega
   ·go_wp2_with fail
    go_roundw
    case rel=>exact⟨j+1,by omega,by go_num,by rw[HVC.1,ah (fun h=>h1 h.1)],HW2.1⟩
    case measure=>simp only[intOf]<;>omega
  ·obtain rfl:j=n:=by omega
   go_wp2_with fail
   go_ret
   exact⟨by rw[HV.1,eU (by rw[HL.1];exact ag _)];rfl,HW.1⟩
theorem OW {w:World}{B:Nat}{V:TV}{l:List Rg.Sn}(hr:Rd w B 3 V.jW.A V.jW.n (spans l))(hB:B<=w.heap.size)(hn:V.jW.n<=100000)(c:Int) :
  Calls Tryz.prog 72 #[kF V,.int .i64 c] w fun e w'=>e=.returned (.bool (Gm.val l c==1))/\Below w.heap.size w w':=by
 have HX:=jP (Bk.new w 26 (kK V));have xO:=jP ((ai w.heap.size w).alloc (ag _) (.cells (kK V) 26));have HC:=jP (fun (W:World) (hb:Below w.heap.size w W)=>V_ (c0:=V.jW.c) (hr.below (hb.mono hB)) (aK hB hb.size) hn c);clear hr hB hn;generalize Gm.val l c=v at *;go_enter Tryz.func72,Tryz.ntmps72
 go_upto_region 1 with (fail)
 generalize w.alloc (.cells (kK V) 26)=w1 at *;have x6:=HX.1.cell 6;have x6:w1.cell? ⟨w.heap.size,6,none⟩=some (.slice V.jW.A V.jW.n V.jW.c):=x6;go_wp2_with fail
 refine (HC.1 w1 xO.1).mono ?_;rintro e w2 ⟨rfl,hb⟩;have HB:=jP (xO.1.trans (hb.mono xO.1.size));clear hb x6;by_cases hv:v=1
 ·subst hv;go_wp2_with fail
  go_ret
  exact⟨rfl,HB.1⟩
 ·have hvb:(v==1)=false:=by simpa using hv
  have HVB:=jP hvb;clear hv;go_wp2_with fail
  go_ret
  exact⟨by rw[HVB.1];rfl,HB.1⟩
def uD (T:Gm.Tab)(i:Nat)(s:Sl)(bs:List Nat)(x:World):Prop:=
 (∀ g∈bs,g<x.heap.size)/\∀ (y:World) (B:Nat),(∀ g∈bs,y.heap[g]?=x.heap[g]?)->(∀ g∈bs,g<B)->qJ T i y B s
section
variable {T T':Gm.Tab} {i:Nat} {s:Sl} {bs bs':List Nat} {x y:World} {K:List Nat}
theorem uD.jS (h:uD T i s bs x)(ho:jR K x y)(hd:∀ g∈bs,g∉K):uD T i s bs y:=
 ⟨fun g hg=>aG (h.1 g hg) ho.size,fun z B hz hB=>h.2 z B (fun g hg=>(hz g hg).trans (ho.block g (h.1 g hg) (hd g hg))) hB⟩
theorem uD.more (h:uD T i s bs x)(hs:∀ g∈bs,g∈bs')(hl:∀ g∈bs',g<x.heap.size):uD T i s bs' x:=
 ⟨hl,fun z B hz hB=>h.2 z B (fun g hg=>hz g (hs g hg)) (fun g hg=>hB g (hs g hg))⟩
theorem uD.same (h:uD T i s bs x)(he:∀ (z:World) (B:Nat),qJ T i z B s->qJ T' i z B s):uD T' i s bs x:=⟨h.1,fun z B hz hB=>he z B (h.2 z B hz hB)⟩
theorem JG {base size n c:Nat}{e:TypeId}{A:Option Addr}{xs:List Value}(h:x.ownsRow base e size (.slice A n c) n xs) :
  (∀ g∈jT A,g<x.heap.size)/\∀ (z:World) (B:Nat),(∀ g∈jT A,z.heap[g]?=x.heap[g]?)->(∀ g∈jT A,g<B)->Rd z B size A n xs:=by
 refine⟨fun g hg=>?_,fun z B hz hB=>?_⟩
 ·obtain⟨cs,hb⟩:=kV h g hg;exact hb.lt
 ·have hs:=h.1;rcases h.2 with ⟨hv,h0⟩ | ⟨g,cap,cur,hv,h1,h2,h3⟩
  ·refine⟨hs,fun hn=>?_⟩;subst h0;omega
  ·injection hv with e1 _ e3
   subst e1;have hz':z.heap[g]?=some (.cells cur e (0,0)):=(hz g (by simp[jT])).trans h2;have ho:z.ownsRow base e size (.slice (some ⟨g,0,none⟩) n c) n xs:=⟨hs,.inr ⟨g,cap,cur,by rw[e3],h1,hz',h3⟩⟩;obtain⟨h5,h6⟩:=Rd.kX ho;refine⟨h5,fun hn=>?_⟩;obtain⟨b,off,e4,_,h7⟩:=h6 hn;injection e4 with e4
   injection e4 with e5 e6
   exact⟨b,off,by rw[e5,e6],by rw[<-e5];exact hB g (by simp[jT]),h7⟩
theorem uD.own {base n c:Nat}{A:Option Addr}{l:List Rg.Sn}(h:x.ownsRow base 82 3 (.slice A n c) n (spans l))(hi:i<7)(hl:xI T i=l):uD T i ⟨A,n,c⟩ (jT A) x:=by
 obtain⟨h1,h2⟩:=JG h;refine⟨h1,fun z B hz hB=>?_⟩;unfold qJ;rw[aj hi,hl];exact h2 z B hz hB
end
def Gm.Tab.sZ (T:Gm.Tab)(i:Nat)(l:List Rg.Sn):Gm.Tab:=
 match i with
 | 0=>{ T with cat:=l } | 1=>{ T with cls:=l } | 2=>{ T with ku:=l } | 3=>{ T with jX:=l } | 4=>{ T with scr:=l } | 5=>{ T with jU:=l } | _=>{ T with jW:=l }
theorem Uh (T:Gm.Tab)(i:Nat)(hi:i<7)(l:List Rg.Sn):xI (T.sZ i l) i=l:=by
 match i,hi with
 | 0,_=>rfl
 | 1,_=>rfl
 | 2,_=>rfl
 | 3,_=>rfl
 | 4,_=>rfl
 | 5,_=>rfl
 | 6,_=>rfl
theorem aeM (T:Gm.Tab)(i:Nat)(hi:i<7)(l:List Rg.Sn)(j:Nat)(hj:j≠i)(z:World)(B:Nat)(s:Sl)(h:qJ T j z B s)(hj2:j<12):qJ (T.sZ i l) j z B s:=by
 have h1:∀ j,j<7->j≠i->xI (T.sZ i l) j=xI T j:=by
  intro j hj hne;match i,hi with
  | 0,_=>match j,hj with | 1,_=>rfl | 2,_=>rfl | 3,_=>rfl | 4,_=>rfl | 5,_=>rfl | 6,_=>rfl | 0,_=>exact absurd rfl hne
  | 1,_=>match j,hj with | 0,_=>rfl | 2,_=>rfl | 3,_=>rfl | 4,_=>rfl | 5,_=>rfl | 6,_=>rfl | 1,_=>exact absurd rfl hne
  | 2,_=>match j,hj with | 1,_=>rfl | 0,_=>rfl | 3,_=>rfl | 4,_=>rfl | 5,_=>rfl | 6,_=>rfl | 2,_=>exact absurd rfl hne
  | 3,_=>match j,hj with | 1,_=>rfl | 2,_=>rfl | 0,_=>rfl | 4,_=>rfl | 5,_=>rfl | 6,_=>rfl | 3,_=>exact absurd rfl hne
  | 4,_=>match j,hj with | 1,_=>rfl | 2,_=>rfl | 3,_=>rfl | 0,_=>rfl | 5,_=>rfl | 6,_=>rfl | 4,_=>exact absurd rfl hne
  | 5,_=>match j,hj with | 1,_=>rfl | 2,_=>rfl | 3,_=>rfl | 4,_=>rfl | 0,_=>rfl | 6,_=>rfl | 5,_=>exact absurd rfl hne
  | 6,_=>match j,hj with | 1,_=>rfl | 2,_=>rfl | 3,_=>rfl | 4,_=>rfl | 5,_=>rfl | 0,_=>rfl | 6,_=>exact absurd rfl hne
 have h2:(T.sZ i l).exc=T.exc:=by
  match i,hi with
  | 0,_=>rfl | 1,_=>rfl | 2,_=>rfl | 3,_=>rfl | 4,_=>rfl | 5,_=>rfl | 6,_=>rfl
 have h3:∀ j,AA (T.sZ i l) j=AA T j:=by
  intro j;match i,hi with
  | 0,_=>rfl | 1,_=>rfl | 2,_=>rfl | 3,_=>rfl | 4,_=>rfl | 5,_=>rfl | 6,_=>rfl
 unfold qJ at *;by_cases Ql:j<7
 ·rw[aj Ql] at h ⊢;rw[h1 j Ql hj];exact h
 ·rw[ah Ql] at h ⊢;by_cases h10:j=10
  ·rw[aj h10] at h ⊢;rw[h2];exact h
  ·rw[ah h10] at h ⊢;rw[h3];exact h
structure oC (op:List Nat)(gt:Nat)(S:Nat->Sl)(T:Gm.Tab)(bs:List Nat)(x:World):Prop where
 bx:Bk x gt 26 (kK (wG S))
 kn:∀ i,i<12->i∉op->uD T i (S i) bs x
 lt:∀ q∈bs,q<x.heap.size
 no:gt∉bs
section
variable {op:List Nat} {gt:Nat} {S:Nat->Sl} {T:Gm.Tab} {bs:List Nat} {x y:World} {K:List Nat}
theorem oC.jS (h:oC op gt S T bs x)(ho:jR K x y)(hd:∀ g∈bs,g∉K)(hg:gt∉K):oC op gt S T bs y:=⟨h.bx.jS ho hg,fun i hi hp=>(h.kn i hi hp).jS ho hd,fun q hq=>aG (h.lt q hq) ho.size,h.no⟩
theorem oC.below (h:oC op gt S T bs x)(hb:Below x.heap.size x y):oC op gt S T bs y:=h.jS (jR.below (S:=[]) hb (ag _)) (by simp) (by simp)
theorem oC.cell (h:oC op gt S T bs x){k:Nat}(hk:k<12):x.cell? ⟨gt,k,none⟩=some (.slice (S k).A (S k).n (S k).c)/\x.frozen? ⟨gt,k,none⟩=false:=⟨(h.bx.cell k).trans (X0 S k hk),h.bx.frozen k⟩
theorem oC.rd (h:oC op gt S T bs x){k:Nat}(hk:k<7)(hp:k∉op):Rd x x.heap.size 3 (S k).A (S k).n (spans (xI T k)):=by
 have:=(h.kn k (by omega) hp).2 x x.heap.size (fun _ _=>rfl) (h.kn k (by omega) hp).1;unfold qJ at this;rwa [aj hk] at this
theorem oC.put (h:oC op gt S T bs x){k:Nat}(hk:k<7){base n c:Nat}{A:Option Addr}{l:List Rg.Sn}(ho:x.ownsRow base 82 3 (.slice A n c) n (spans l))(hA:gt∉jT A) :
  oC op gt (nZ S k ⟨A,n,c⟩) (T.sZ k l) (jT A++bs) (x.setCell ⟨gt,k,none⟩ (.slice A n c)):=by
 have hs:jR [gt] x (x.setCell ⟨gt,k,none⟩ (.slice A n c)):=(jR.refl [gt] x).setCell (p:=⟨gt,k,none⟩) (.inl (by simp)) _;have hr:=uD.own (T:=T.sZ k l) ho hk (Uh T k hk l);have hlt:∀ g∈jT A++bs,g<x.heap.size:=fun g hg=>by
  rcases aO.1 hg with h1 | h1
  ·exact hr.1 g h1
  ·exact h.lt g h1
 have hno:gt∉jT A++bs:=fun hg=>(aO.1 hg).elim hA h.no;refine⟨?_,fun i hi hp=>?_,fun q hq=>aG (hlt q hq) hs.size,hno⟩
 ·rw[<-KJ S k (by omega) ⟨A,n,c⟩];exact h.bx.kM k _
 ·refine uD.jS (K:=[gt]) ?_ hs (fun g hg hm=>hno (by rw[<-aB.1 hm];exact hg));unfold nZ;split
  ·rename_i e
   subst e;exact hr.more (fun g hg=>cZ _ hg) hlt
  ·rename_i e
   exact ((h.kn i hi hp).same (fun z B hz=>aeM T k hk l i e z B (S i) hz hi)).more (fun g hg=>dZ _ hg) hlt
def vC (T:Gm.Tab)(i:Nat)(s:Rg.Sn):Gm.Tab:=if 0<s.v then T.sZ i (xI T i++[s]) else T
theorem uJ (h:oC op gt S T bs x){k:Nat}(hk:k<7)(hp:k∉op)(hl:(xI T k).length<=1000)(f t v0 v:Int) :
  Calls Tryz.prog 29 #[.pointer (some ⟨gt,k,none⟩),.agg #[.int .i64 f,.int .i64 t,.int .i64 v0],.int .i64 v] x fun e y=>e=.returned (.tuple #[])/\∃ S' bs',oC op gt S' (vC T k ⟨f,t,v⟩) bs' y/\(∀ g∈bs',g∈bs\/x.heap.size<=g)/\jR [gt] x y/\∀ i,i≠k->S' i=S i:=by
 obtain⟨hc,hf⟩:=h.cell (k:=k) (by omega);have hn:(S k).n<=1000:=by have:=qO (h.rd hk hp);omega
 refine (add_any f t v0 v hc hf h.bx.lt (h.rd hk hp) (ag _) hn).mono ?_;rintro e y ⟨rfl,h1,h2⟩;refine⟨rfl,?_⟩;by_cases hv:0<v
 ·obtain⟨A',c',w2,hb,ho,rfl⟩:=h2 hv;have hx:=h.bx.lt;have hA:gt∉jT A':=fun hg=>by
   cases A' with
   | none=>simp[jT] at hg
   | some a=>
    have:=(ho.lt a.block (by simp[Value.ownBlock])).1;simp[jT] at hg;omega
  have ht:=(h.below hb).put hk ho hA;refine⟨nZ S k ⟨A',(S k).n+1,c'⟩,jT A'++bs,?_,?_,((jR.below (S:=[gt]) hb (ag _))).setCell (p:=⟨gt,k,none⟩) (.inl (by simp)) _,fun i hi=>by unfold nZ;rw[ah hi]⟩
  ·unfold vC;rw[aj hv];exact ht
  ·intro g hg;rcases aO.1 hg with h3 | h3
   ·cases A' with
    | none=>simp[jT] at h3
    | some a=>
     simp[jT] at h3;subst h3;exact .inr (ho.lt a.block (by simp[Value.ownBlock])).1
   ·exact .inl h3
 ·refine⟨S,bs,?_,fun g hg=>.inl hg,jR.below (h1 hv) (ag _),fun i _=>rfl⟩;unfold vC;rw[ah hv];exact h.below (h1 hv)
end
end Go.Proofs.YtkachcflifhgiaaGreatDoor
namespace Go.Proofs.YtkachcflifhgiaaGreatDoor
open Go Go.RowKit Go.Shelf
open Go.Proofs.YtkachcflifhgiaaGreatDoor.Rg (Sn)
namespace Gm
structure rQ (k:Nat)(lo hi:Int)(l:List Sn):Prop where
 mQ:Rg.Asc (-1) l
 pt:∀ s∈l,s.f=s.t/\s.f∈nR.take k
 va:∀ s∈l,1<=s.v/\lo<=s.v/\s.v<=hi
 len:l.length<=k
theorem rQ.nil (k:Nat)(lo hi:Int):rQ k lo hi []:=⟨trivial,nofun,nofun,by simp⟩
theorem rQ.col {k:Nat}{lo hi:Int}{l:List Sn}(h:rQ k lo hi l)(hk:k<=28):zQ lo hi l:=⟨h.mQ,fun s hs=>⟨(h.pt s hs).1,jF (h.pt s hs).2⟩,h.va,by have:=h.len;omega⟩
theorem rQ.mono {k:Nat}{lo hi:Int}{l:List Sn}(h:rQ k lo hi l):rQ (k+1) lo hi l:=⟨h.mQ,fun s hs=>⟨(h.pt s hs).1,by
 have:=(h.pt s hs).2;rw[dS] at this ⊢;obtain⟨j,hj,e⟩:=this;exact⟨j,by omega,e⟩⟩,h.va,by have:=h.len;omega⟩
theorem abt:nR.Pairwise (·<·):=by decide
theorem Uu {k:Nat}{c:Int}(hc:nR[k]?=some c){d:Int}(hd:d∈nR.take k):d<c:=by
 obtain⟨h1,h2⟩:=ak.1 hc;rw[dS] at hd;obtain⟨j,hj,e⟩:=hd;rw[<-h2,<-e];exact eX.1 abt j k (by omega) h1 (by omega)
theorem ac9 {l:List Sn}:∀ {a:Int} {s:Sn},Rg.Asc a l->a<s.f->s.f<=s.t->s.t<=1114111->(∀ q∈l,q.t<s.f)->Rg.Asc a (l++[s]):=by
 induction l with
 | nil=>intro a s _ h1 h2 h3 _;exact⟨h1,h2,h3,trivial⟩
 | cons q r ih=>
  intro a s h h1 h2 h3 h4;exact⟨h.1,h.2.1,h.2.2.1,ih h.2.2.2 (h4 q (eF ..)) h2 h3 (fun z hz=>h4 z (aU _ hz))⟩
theorem rQ.add {k:Nat}{lo hi c v:Int}{l:List Sn}(h:rQ k lo hi l)(hc:nR[k]?=some c)(h1:1<=v)(hl:lo<=v)(hh:v<=hi):rQ (k+1) lo hi (l++[⟨c,c,v⟩]):=by
 have hp:=xX (ay hc);have hck:c∈nR.take (k+1):=by
  obtain⟨g1,g2⟩:=ak.1 hc;rw[dS];exact⟨k,by omega,g2⟩
 have hm:=h.mono;refine⟨ac9 h.mQ (by show -1<c;omega) (iZ _) (by show c<=1114111;omega) (fun q hq=>?_),fun s hs=>?_,fun s hs=>?_,by rw[aA];have:=h.len;simp;omega⟩
 ·obtain⟨e,hq2⟩:=h.pt q hq;rw[<-e];exact Uu hc hq2
 ·rcases aO.1 hs with h3 | h3
  ·exact hm.pt s h3
  ·rw[aB.1 h3];exact⟨rfl,hck⟩
 ·rcases aO.1 hs with h3 | h3
  ·exact h.va s h3
  ·rw[aB.1 h3];exact⟨h1,hl,hh⟩
end Gm
structure C_ (k:Nat)(st:List Int)(T:Gm.Tab):Prop where
 cat:Gm.rQ k 0 8 T.cat
 cls:Gm.rQ k 1 254 T.cls
 ku:Gm.rQ k 0 5 T.ku
 jX:Gm.rQ k 0 11 T.jX
 scr:Gm.rQ k 0 60 T.scr
 jW:Gm.rQ k 1 1 T.jW
 jU:T.jU=[]
 ext:T.ext=[]
 maps:T.maps=[]
 dec:T.dec=[]
 exc:T.exc=[]
 jY:T.jY=[]
 len:st.length=k
 va:∀ s∈st,s=0\/s=1\/s=2\/s=4
theorem C_.start:C_ 0 [] Gm.t0:=⟨.nil ..,.nil ..,.nil ..,.nil ..,.nil ..,.nil ..,rfl,rfl,rfl,rfl,rfl,rfl,rfl,nofun⟩
end Go.Proofs.YtkachcflifhgiaaGreatDoor
namespace Go.Proofs.YtkachcflifhgiaaGreatDoor
open Go Go.RowKit Go.Shelf
open Go.Proofs.YtkachcflifhgiaaGreatDoor.Rg (Sn)
def oz (l:List Sn)(s:Sn):List Sn:=if 0<s.v then l++[s] else l
theorem Gm.rQ.ad {k:Nat}{lo hi c v:Int}{l:List Sn}(h:Gm.rQ k lo hi l)(hc:Gm.nR[k]?=some c)(hl:0<v->lo<=v)(hh:v<=hi):Gm.rQ (k+1) lo hi (oz l ⟨c,c,v⟩):=by
 unfold oz;by_cases hv:0<v
 ·rw[aj (show 0<(⟨c,c,v⟩:Sn).v from hv)];exact h.add hc (by omega) (hl hv) hh
 ·rw[ah (show ¬0<(⟨c,c,v⟩:Sn).v from hv)];exact h.mono
@[reducible] def qQ (c0 c1 c2 c3 c4 c5 c6:List Sn):Gm.Tab:=⟨c0,c1,c2,c3,c4,c5,c6,[],[],[],[],[]⟩
section
variable {c0 c1 c2 c3 c4 c5 c6:List Sn} {s:Sn}
theorem ad6:vC (qQ c0 c1 c2 c3 c4 c5 c6) 0 s=qQ (oz c0 s) c1 c2 c3 c4 c5 c6:=by unfold vC oz;split<;>rfl
theorem ad5:vC (qQ c0 c1 c2 c3 c4 c5 c6) 1 s=qQ c0 (oz c1 s) c2 c3 c4 c5 c6:=by unfold vC oz;split<;>rfl
theorem ad4:vC (qQ c0 c1 c2 c3 c4 c5 c6) 2 s=qQ c0 c1 (oz c2 s) c3 c4 c5 c6:=by unfold vC oz;split<;>rfl
theorem ad3:vC (qQ c0 c1 c2 c3 c4 c5 c6) 3 s=qQ c0 c1 c2 (oz c3 s) c4 c5 c6:=by unfold vC oz;split<;>rfl
theorem ad2:vC (qQ c0 c1 c2 c3 c4 c5 c6) 4 s=qQ c0 c1 c2 c3 (oz c4 s) c5 c6:=by unfold vC oz;split<;>rfl
theorem Xx:vC (qQ c0 c1 c2 c3 c4 c5 c6) 6 s=qQ c0 c1 c2 c3 c4 c5 (oz c6 s):=by unfold vC oz;split<;>rfl
end
structure Lk (W:World)(g gt bp:Nat)(A:Option Addr)(k sc:Nat)(st:List Int)(S:Nat->Sl)(T:Gm.Tab)(bs:List Nat)(x:World):Prop where
 src:nC x g
 tb:oC [] gt S T bs x
 pool:Bk x bp 3 (ints Gm.nR).toArray
 row:x.ownsRow (bp+1) 3 1 (.slice A k sc) k (ints st)
 bl:Below W.heap.size W x
 gW:W.heap.size<=g
 lt:g<gt
 lp:gt<bp
 ng:g∉bs
 nr:∀ q∈jT A,q∉bs
 nil_:∀ i,7<=i->S i=Sl.z
 bg:∀ q∈bs,W.heap.size<=q
section
variable {W x y:World} {g gt bp k sc:Nat} {A:Option Addr} {st:List Int} {S S':Nat->Sl} {T T':Gm.Tab} {bs bs':List Nat}
theorem Lk.oI (h:Lk W g gt bp A k sc st S T bs x):∀ q∈jT A,bp<q/\q<x.heap.size:=fun q hq=>by
 cases A with
 | none=>simp[jT] at hq
 | some a=>
  have:=h.row.lt a.block (by simp[Value.ownBlock]);simp[jT] at hq;omega
theorem Lk.turn (h:Lk W g gt bp A k sc st S T bs x)(hs:nC y g)(ho:jR [g] x y):Lk W g gt bp A k sc st S T bs y:=by
 obtain⟨cs,hb⟩:=h.src.bk;have hK:lg x [g] [127]:=lg.one hb;exact⟨hs,h.tb.jS ho (fun q hq hm=>h.ng (by rw[<-aB.1 hm];exact hq)) (by have:=h.lt;simp;omega),h.pool.jS ho (by have:=h.lt;have:=h.lp;simp;omega),rY h.row ho hK (by decide),nC.past ho h.bl h.gW,h.gW,h.lt,h.lp,h.ng,h.nr,h.nil_,h.bg⟩
theorem Lk.below (h:Lk W g gt bp A k sc st S T bs x)(hb:Below x.heap.size x y):Lk W g gt bp A k sc st S T bs y:=
 ⟨h.src.below hb,h.tb.below hb,h.pool.below hb h.pool.lt,kD h.row hb,h.bl.trans (hb.mono h.bl.size),h.gW,h.lt,h.lp,h.ng,h.nr,h.nil_,h.bg⟩
theorem Lk.col (h:Lk W g gt bp A k sc st S T bs x)(ht:oC [] gt S' T' bs' y)(hbs:∀ q∈bs',q∈bs\/x.heap.size<=q)(ho:jR [gt] x y)(hS:∀ i,7<=i->S' i=S i):Lk W g gt bp A k sc st S' T' bs' y:=by
 have hK:lg x [gt] [26]:=lg.one h.tb.bx;have h1:=h.lt;have h2:=h.lp;have h3:=h.gW;have h4:=h.tb.bx.lt;refine⟨h.src.jS ho (by simp;omega) (by simp;omega),ht,h.pool.jS ho (by simp;omega),rY h.row ho hK (by decide),ho.fresh h.bl (fun q hq=>by rw[aB.1 hq];omega) h.bl.size,h3,h1,h2,fun hg=>?_,fun q hq hm=>?_,fun i hi=>(hS i hi).trans (h.nil_ i hi),fun q hq=>(hbs q hq).elim (h.bg q) (fun e=>aK h.bl.size e)⟩
 ·rcases hbs g hg with e | e
  ·exact h.ng e
  ·omega
 ·have:=h.oI q hq;rcases hbs q hm with e | e
  ·exact h.nr q hq e
  ·omega
theorem Lk.stat (h:Lk W g gt bp A k sc st S T bs x){A':Option Addr}{c':Nat}{v:Int}(ho:y.ownsRow (bp+1) 3 1 (.slice A' (k+1) c') (k+1) (ints (st++[v])))(hg:x.grownBy y (Value.slice A k sc).ownBlock)
  (hA:∀ q∈jT A',q∈jT A\/x.heap.size<=q):Lk W g gt bp A' (k+1) c' (st++[v]) S T bs y:=by
 have h1:=h.lt;have h2:=h.lp;have h3:=h.gW;have h4:=h.pool.lt;have hot:jR (jT A) x y:=(jR.refl (jT A) x).grown hg (fun q e=>by
  cases A with
  | none=>cases e
  | some a=>simp[Value.ownBlock] at e;exact .inl (by simp[jT,e]))
 have hn:∀ q,q<=bp->q∉jT A:=fun q hq hm=>by have:=h.oI q hm;omega
 refine⟨h.src.jS hot (hn g (by omega)) (fun q hq=>by have:=h.oI q hq;omega),h.tb.jS hot (fun q hq hm=>h.nr q hm hq) (hn gt (by omega)),h.pool.jS hot (hn bp (by omega)),ho,hot.fresh h.bl (fun q hq=>by have:=h.oI q hq;omega) h.bl.size,h3,h1,h2,h.ng,fun q hq hm=>?_,h.nil_,h.bg⟩;rcases hA q hq with e | e
 ·exact h.nr q e hm
 ·have:=h.tb.lt q hm;omega
end
end Go.Proofs.YtkachcflifhgiaaGreatDoor
