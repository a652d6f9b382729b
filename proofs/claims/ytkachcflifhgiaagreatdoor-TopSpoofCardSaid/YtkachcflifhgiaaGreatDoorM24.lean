/-        -/
import Derived.Test.YtkachcflifhgiaaGreatDoorM23
import Derived.Test.YtkachcflifhgiaaGreatDoorM16
import Derived.StillTailTactics
set_option linter.unusedVariables false
set_option maxRecDepth 100000
set_option maxHeartbeats 16000000
namespace Go.Proofs.YtkachcflifhgiaaGreatDoor
open Go Go.RowKit Go.Shelf
theorem Nq (c:Int)(h0:0<=c)(h1:c<64)(w:World):Calls Tryz.prog 222 #[.int .i64 c] w fun e w'=>e=.returned (.bool true)/\w'=w:=by
 go_enter Tryz.func222,Tryz.ntmps222
 go_wp2_with fail
 go_ret
 exact⟨rfl,rfl⟩
theorem nI.below {w w':World}{B g ls lo n u:Nat}{S:List kU}{O:List Int}(h:nI w g ls lo n S O u)(hb:Below B w w')(hB:w.heap.size<=B):nI w' g ls lo n S O u:=
 ⟨h.k.below hb (by have:=h.k.lt;omega),h.s.below hb (by have:=h.s.lt;omega),Bk.below h.o hb (by have:=Bk.lt h.o;omega),h.ns,h.no,h.d1,h.d2,h.d3⟩
theorem nI.drewN {w:World}{g ls lo n u:Nat}{S:List kU}{O:List Int}(h:nI w g ls lo n S O u)(m:Nat):nI (w.drewN m) g ls lo n S O u:=
 ⟨h.k,h.s,h.o,h.ns,h.no,h.d1,h.d2,h.d3⟩
theorem nI.used {w:World}{g ls lo n u:Nat}{S:List kU}{O:List Int}(h:nI w g ls lo n S O u)(x:Int)(u':Nat)(hx:x=(u':Int)):nI (w.setCell ⟨g,2,none⟩ (.int .i64 x)) g ls lo n S O u':=by
 subst hx;exact⟨h.k.kM 2 _,h.s.far (by show ls≠g;exact h.d1.symm) _,Bk.far h.o (by show lo≠g;exact h.d2.symm) _,h.ns,h.no,h.d1,h.d2,h.d3⟩
theorem nI.slot {w:World}{g ls lo n u:Nat}{S:List kU}{O:List Int}(h:nI w g ls lo n S O u)(i:Nat)(s:kU):nI ((w.setCell ⟨ls,i*2,none⟩ (.bool s.u)).setCell ⟨ls,i*2+1,none⟩ (.string s.k)) g ls lo n (S.set i s) O u:=
 ⟨(h.k.far (by show g≠ls;exact h.d1) _).far (by show g≠ls;exact h.d1) _,h.s.set i s,Bk.far (Bk.far h.o (by show lo≠ls;exact h.d3.symm) _) (by show lo≠ls;exact h.d3.symm) _,by rw[dU];exact h.ns,h.no,h.d1,h.d2,h.d3⟩
theorem nI.alm {w:World}{g ls lo n u:Nat}{S:List kU}{O:List Int}(h:nI w g ls lo n S O u)(i:Nat)(c:Int):nI (w.setCell ⟨lo,i,none⟩ (.int .i64 c)) g ls lo n S (O.set i c) u:=
 ⟨h.k.far (by show g≠lo;exact h.d2) _,h.s.far (by show ls≠lo;exact h.d3) _,h.o.set i c,h.ns,by rw[dU];exact h.no,h.d1,h.d2,h.d3⟩
theorem TM (g ls lo n u at_:Nat)(S:List kU)(O:List Int)(key:ByteArray)(c:Int)(w:World)(h:nI w g ls lo n S O u)(hn0:0<n)(hn:n<=100000)(hk:key.size<=1000000)
  (z:Nat) (hz:z<n) (hfree:(Sl.gt S z).u=false) (hf:Sl.find (qH n) S key=(at_,false)) (hat:at_<n) (hu:u+2<=n) (c0:0<=c) (c1:c<64) :
  Calls Tryz.prog 162 #[.pointer (some ⟨g,0,none⟩),.string key,.int .i64 c] w fun e w'=>e=.returned (.int .i64 0)/\nI w' g ls lo n (S.set at_ ⟨true,key⟩) (O.set at_ c) (u+1)/\jR [g,ls,lo] w w':=by
 have HF:=jP (fun w hS=>yw ls n n S key w hS h.ns hn0 hn hk z hz hfree);rw[hf] at HF;have HS:=jP h;have k0:w.cell? ⟨g,0,none⟩=some (.slice (some ⟨ls,0,none⟩) n n):=h.k.cell 0;clear hfree hf;go_enter Tryz.func162,Tryz.ntmps162
 go_wp2_with fail
 refine (Nq c c0 c1 _).mono ?_;rintro e w1 ⟨rfl,rfl⟩;go_wp2_with fail
 refine (HF.1 _ HS.1.s).mono ?_;rintro e w2 ⟨rfl,hb2⟩;have HS2:=jP (HS.1.below hb2 (ag _));have lG:=jP (jR.below (S:=[g,ls,lo]) hb2 (ag _));clear hb2 k0 h;have k0:w2.cell? ⟨g,0,none⟩=some (.slice (some ⟨ls,0,none⟩) n n):=HS2.1.k.cell 0;have k1:w2.cell? ⟨g,1,none⟩=some (.slice (some ⟨lo,0,none⟩) n n):=HS2.1.k.cell 1;have k2:w2.cell? ⟨g,2,none⟩=some (.int .i64 (u:Int)):=HS2.1.k.cell 2;have hlt:¬((n:Int)-(u:Int)<2):=by omega
 have ao8:decide ((n:Int)-(u:Int)<2)=false:=by simp;omega
 go_wp2_with fail
 go_quiet (fail)
 obtain⟨s,hs⟩:∃ s,S[at_]?=some s:=⟨_,au (by rw[HS.1.ns];exact hat)⟩;obtain⟨o,ho⟩:∃ o,O[at_]?=some o:=⟨_,au (by rw[HS.1.no];exact hat)⟩;obtain⟨s0,s1⟩:=HS2.1.s.cell hs;have o0:=HS2.1.o.cell ho;have f0:w2.frozen? ⟨ls,at_*2,none⟩=false:=HS2.1.s.frozen _;have f1:w2.frozen? ⟨ls,at_*2+1,none⟩=false:=HS2.1.s.frozen _;have f2:w2.frozen? ⟨lo,at_,none⟩=false:=Bk.frozen HS2.1.o _;have f3:w2.frozen? ⟨g,2,none⟩=false:=HS2.1.k.frozen _;obtain⟨d1,d2,d3⟩:g≠ls/\g≠lo/\ls≠lo:=⟨HS2.1.d1,HS2.1.d2,HS2.1.d3⟩;clear hs ho;go_wp2_with fail
 go_region
 have mg:=jP (((HS2.1.drewN (nq+1)).slot at_ ⟨true,key⟩).alm at_ c);have mX:=jP ((((lG.1.drewN (nq+1)).setCell (p:=⟨ls,at_*2,none⟩) (.inl (by simp)) (.bool true)).setCell (p:=⟨ls,at_*2+1,none⟩) (.inl (by simp)) (.string key)).setCell (p:=⟨lo,at_,none⟩) (.inl (by simp)) (.int .i64 c));clear s0 s1 o0 f0 f1 f2 f3 k0 k1 k2;generalize hw3:((((w2.drewN (nq+1)).setCell ⟨ls,at_*2,none⟩ (.bool true)).setCell ⟨ls,at_*2+1,none⟩ (.string key)).setCell ⟨lo,at_,none⟩ (.int .i64 c))=w3 at *;clear hw3;have k2:w3.cell? ⟨g,2,none⟩=some (.int .i64 (u:Int)):=mg.1.k.cell 2;have f3:w3.frozen? ⟨g,2,none⟩=false:=mg.1.k.frozen _;go_wp2
 go_ret
 exact⟨rfl,mg.1.used _ _ (by omega),mX.1.setCell (p:=⟨g,2,none⟩) (.inl (by simp)) _⟩
section
variable {w w':World} {g ss sr n u:Nat} {S S':List kU} {R:List Rc}
theorem lW.below {B:Nat}(h:lW w g ss sr n S R u)(hb:Below B w w')(hB:w.heap.size<=B):lW w' g ss sr n S R u:=
 ⟨h.k.below hb (by have:=h.k.lt;omega),h.s.below hb (by have:=h.s.lt;omega),h.r.below hb (by have:=h.r.lt;omega),h.ns,h.nr,h.d1,h.d2,h.d3⟩
theorem lW.drewN (h:lW w g ss sr n S R u)(m:Nat):lW (w.drewN m) g ss sr n S R u:=⟨h.k,h.s,h.r,h.ns,h.nr,h.d1,h.d2,h.d3⟩
theorem lW.drew (h:lW w g ss sr n S R u):lW w.drew g ss sr n S R u:=⟨h.k,h.s,h.r,h.ns,h.nr,h.d1,h.d2,h.d3⟩
theorem lW.used (h:lW w g ss sr n S R u)(x:Int)(u':Nat)(hx:x=(u':Int)):lW (w.setCell ⟨g,2,none⟩ (.int .i64 x)) g ss sr n S R u':=by
 subst hx;exact⟨h.k.kM 2 _,h.s.far (by show ss≠g;exact h.d1.symm) _,h.r.far (by show sr≠g;exact h.d2.symm) _,h.ns,h.nr,h.d1,h.d2,h.d3⟩
theorem lW.slot (h:lW w g ss sr n S R u)(i:Nat)(s:kU):lW ((w.setCell ⟨ss,i*2,none⟩ (.bool s.u)).setCell ⟨ss,i*2+1,none⟩ (.string s.k)) g ss sr n (S.set i s) R u:=
 ⟨(h.k.far (by show g≠ss;exact h.d1) _).far (by show g≠ss;exact h.d1) _,h.s.set i s,(h.r.far (by show sr≠ss;exact h.d3.symm) _).far (by show sr≠ss;exact h.d3.symm) _,by rw[dU];exact h.ns,h.nr,h.d1,h.d2,h.d3⟩
theorem lW.agH (h:lW w g ss sr n S R u)(i:Nat)(r:Rc):lW ((((w.setCell ⟨sr,i*4,none⟩ (.int .i64 r.st)).setCell ⟨sr,i*4+1,none⟩ (.int .i64 r.ow)).setCell ⟨sr,i*4+2,none⟩ (.string r.nm)).setCell ⟨sr,i*4+3,none⟩ (.int .i64 r.dl)) g ss sr n S (R.set i r) u:=
 ⟨(((h.k.far (by show g≠sr;exact h.d2) _).far (by show g≠sr;exact h.d2) _).far (by show g≠sr;exact h.d2) _).far (by show g≠sr;exact h.d2) _,
  (((h.s.far (by show ss≠sr;exact h.d3) _).far (by show ss≠sr;exact h.d3) _).far (by show ss≠sr;exact h.d3) _).far (by show ss≠sr;exact h.d3) _,h.r.set i r,h.ns,by rw[dU];exact h.nr,h.d1,h.d2,h.d3⟩
end
def CW (n:Nat)(S:List kU)(R:List Rc)(key:ByteArray):Rc:=if (Sl.find (qH n) S key).2 then R.getD (Sl.find (qH n) S key).1 Rc.none else Rc.none
theorem get_any (g ss sr n u:Nat)(S:List kU)(R:List Rc)(key:ByteArray)(w:World)(h:lW w g ss sr n S R u)(hn0:0<n)(hn:n<=100000)(hk:key.size<=1000000)(hat:(Sl.find (qH n) S key).1<n)
  (z:Nat) (hz:z<n) (hfree:(Sl.gt S z).u=false) :
  Calls Tryz.prog 108 #[.pointer (some ⟨g,0,none⟩),.string key] w fun e w'=>e=.returned (.agg (CW n S R key).arr)/\Below w.heap.size w w':=by
 have HF:=jP (fun w hS=>yw ss n n S key w hS h.ns hn0 hn hk z hz hfree);have hgs:CW n S R key=if (Sl.find (qH n) S key).2 then R.getD (Sl.find (qH n) S key).1 Rc.none else Rc.none:=rfl
 rw[hgs];generalize (Sl.find (qH n) S key).1=at_ at *;generalize (Sl.find (qH n) S key).2=ok at *;have HS:=jP (show lW (w.alloc (.cells (m_ 0 0 ⟨#[]⟩ 0) 41)) g ss sr n S R u from h.below (((ai w.heap.size w)).alloc (ag _) _) (ag _));have qy:=jP (Bk.new w 41 (m_ 0 0 ⟨#[]⟩ 0));have HB1:=jP ((ai w.heap.size w).alloc (ag _) (.cells (m_ 0 0 ⟨#[]⟩ 0) 41));have hgw:g<w.heap.size:=h.k.lt;have hsw:sr<w.heap.size:=h.r.lt;have k0:(w.alloc (.cells (m_ 0 0 ⟨#[]⟩ 0) 41)).cell? ⟨g,0,none⟩=some (.slice (some ⟨ss,0,none⟩) n n):=HS.1.k.cell 0;clear hfree h hgs;go_enter Tryz.func108,Tryz.ntmps108
 go_wp2_with fail
 refine (HF.1 _ HS.1.s).mono ?_;rintro e w2 ⟨rfl,hb2⟩;have HS2:=jP (HS.1.below hb2 (ag _));have wF:=jP (qy.1.below hb2 qy.1.lt);have HB2:=jP (HB1.1.trans (hb2.mono (by simp)));have hs2:w.heap.size+1<=w2.heap.size:=by have:=hb2.size;simp at this;omega
 clear hb2 k0;have y0:w2.cell? ⟨w.heap.size,0,none⟩=some (.int .i64 0):=wF.1.cell 0;have y1:w2.cell? ⟨w.heap.size,1,none⟩=some (.int .i64 0):=wF.1.cell 1;have y2:w2.cell? ⟨w.heap.size,2,none⟩=some (.string ⟨#[]⟩):=wF.1.cell 2;have y3:w2.cell? ⟨w.heap.size,3,none⟩=some (.int .i64 0):=wF.1.cell 3;have f0:∀ i:Nat,w2.frozen? ⟨w.heap.size,i,none⟩=false:=fun i=>wF.1.frozen i;have hbl:=fun (v0 v1 v2 v3:Value)=>(((HB2.1.setCell (p:=⟨w.heap.size,0,none⟩) (ag _) v0).setCell (p:=⟨w.heap.size,1,none⟩) (ag _) v1).setCell (p:=⟨w.heap.size,2,none⟩) (ag _) v2).setCell (p:=⟨w.heap.size,3,none⟩) (ag _) v3;have hbk:∀ (a b:Int) (s:ByteArray) (d:Int),Bk ((((w2.setCell ⟨w.heap.size,0,none⟩ (.int .i64 a)).setCell ⟨w.heap.size,1,none⟩ (.int .i64 b)).setCell ⟨w.heap.size,2,none⟩ (.string s)).setCell ⟨w.heap.size,3,none⟩ (.int .i64 d)) w.heap.size 41 (m_ a b s d):=fun a b s d=>
  (((wF.1.kM 0 (.int .i64 a)).kM 1 (.int .i64 b)).kM 2 (.string s)).kM 3 (.int .i64 d)
 have oO:=jP hbl;have pV:=jP hbk;clear hbl hbk;cases ok
 ·go_wp2_with fail
  exact aS (fP (P:=Tryz.prog) (p:=4) (ty:=41) rfl _ _ w.heap.size _ _ _ _ rfl (pV.1 0 0 ⟨#[]⟩ 0) Tryz.underlying41 rfl (by kernel_rfl)) rfl ⟨rfl,oO.1 _ _ _ _⟩
 ·obtain⟨r,hr⟩:∃ r,R[at_]?=some r:=⟨_,au (by rw[HS.1.nr];exact hat)⟩;obtain⟨r0,r1,r2,r3⟩:=HS2.1.r.cell hr;have k1:w2.cell? ⟨g,1,none⟩=some (.slice (some ⟨sr,0,none⟩) n n):=HS2.1.k.cell 1;have HR:=jP (show (R[at_]?).getD Rc.none=r by rw[hr];rfl);clear hr;go_wp2_with fail
  exact aS (fP (P:=Tryz.prog) (p:=4) (ty:=41) rfl _ _ w.heap.size _ _ _ _ rfl (pV.1 r.st r.ow r.nm r.dl) Tryz.underlying41 rfl (by kernel_rfl)) rfl ⟨by rw[HR.1];rfl,oO.1 _ _ _ _⟩
theorem WY (g ss sr n u at_:Nat)(S:List kU)(R:List Rc)(key:ByteArray)(r:Rc)(w:World)(h:lW w g ss sr n S R u)(hn0:0<n)(hn:n<=100000)(hk:key.size<=1000000)(hu:u<=1000000)
  (z:Nat) (hz:z<n) (hfree:(Sl.gt S z).u=false) (hf:Sl.find (qH n) S key=(at_,false)) (hat:at_<n) :
  Calls Tryz.prog 230 #[.pointer (some ⟨g,0,none⟩),.string key,.agg r.arr] w fun e w'=>e=.returned (.tuple #[])/\lW w' g ss sr n (S.set at_ ⟨true,key⟩) (R.set at_ r) (u+1)/\jR [g,ss,sr] w w':=by
 have HF:=jP (fun w hS=>yw ss n n S key w hS h.ns hn0 hn hk z hz hfree);rw[hf] at HF;obtain⟨a,b,q,d⟩:=r;show Calls Tryz.prog 230 #[.pointer (some ⟨g,0,none⟩),.string key,.agg (m_ a b q d)] w _;have HS:=jP (show lW (w.alloc (.cells (m_ a b q d) 41)) g ss sr n S R u from h.below (((ai w.heap.size w)).alloc (ag _) _) (ag _));have qy:=jP (Bk.new w 41 (m_ a b q d));have nT:=jP ((jR.refl [g,ss,sr] w).alloc (.cells (m_ a b q d) 41));have hgw:g<w.heap.size:=h.k.lt;have hsw:sr<w.heap.size:=h.r.lt;have ahf:ss<w.heap.size:=h.s.lt;have k0:(w.alloc (.cells (m_ a b q d) 41)).cell? ⟨g,0,none⟩=some (.slice (some ⟨ss,0,none⟩) n n):=HS.1.k.cell 0;clear hfree hf h;go_enter Tryz.func230,Tryz.ntmps230
 go_wp2_with fail
 refine (HF.1 _ HS.1.s).mono ?_;rintro e w2 ⟨rfl,hb2⟩;have HS2:=jP (HS.1.below hb2 (ag _));have wF:=jP (qy.1.below hb2 qy.1.lt);have lG:=jP (nT.1.trans (jR.below (S:=[g,ss,sr]) hb2 (ag _)));have hs2:w.heap.size+1<=w2.heap.size:=by have:=hb2.size;simp at this;omega
 clear hb2 k0;have y0:w2.cell? ⟨w.heap.size,0,none⟩=some (.int .i64 a):=wF.1.cell 0;have y1:w2.cell? ⟨w.heap.size,1,none⟩=some (.int .i64 b):=wF.1.cell 1;have y2:w2.cell? ⟨w.heap.size,2,none⟩=some (.string q):=wF.1.cell 2;have y3:w2.cell? ⟨w.heap.size,3,none⟩=some (.int .i64 d):=wF.1.cell 3;have k0:w2.cell? ⟨g,0,none⟩=some (.slice (some ⟨ss,0,none⟩) n n):=HS2.1.k.cell 0;have k1:w2.cell? ⟨g,1,none⟩=some (.slice (some ⟨sr,0,none⟩) n n):=HS2.1.k.cell 1;obtain⟨s,hs⟩:∃ s,S[at_]?=some s:=⟨_,au (by rw[HS.1.ns];exact hat)⟩;obtain⟨o,ho⟩:∃ o,R[at_]?=some o:=⟨_,au (by rw[HS.1.nr];exact hat)⟩;obtain⟨s0,s1⟩:=HS2.1.s.cell hs;obtain⟨o0,o1,o2,o3⟩:=HS2.1.r.cell ho;have f0:w2.frozen? ⟨ss,at_*2,none⟩=false:=HS2.1.s.frozen _;have f1:w2.frozen? ⟨ss,at_*2+1,none⟩=false:=HS2.1.s.frozen _;have f2:∀ i:Nat,w2.frozen? ⟨sr,i,none⟩=false:=fun i=>HS2.1.r.frozen _;obtain⟨d1,d2,d3⟩:g≠ss/\g≠sr/\ss≠sr:=⟨HS2.1.d1,HS2.1.d2,HS2.1.d3⟩;have e1:ss≠w.heap.size:=by omega
 have e2:sr≠w.heap.size:=by omega
 clear hs ho;go_wp2_with fail
 go_region
 have mg:=jP ((HS2.1.slot at_ ⟨true,key⟩).agH at_ ⟨a,b,q,d⟩).drew;have mX:=jP (((((((lG.1.setCell (p:=⟨ss,at_*2,none⟩) (.inl (by simp)) (.bool true)).setCell (p:=⟨ss,at_*2+1,none⟩) (.inl (by simp)) (.string key)).setCell (p:=⟨sr,at_*4,none⟩) (.inl (by simp)) (.int .i64 a)).setCell (p:=⟨sr,at_*4+1,none⟩) (.inl (by simp)) (.int .i64 b)).setCell (p:=⟨sr,at_*4+2,none⟩) (.inl (by simp)) (.string q)).setCell (p:=⟨sr,at_*4+3,none⟩) (.inl (by simp)) (.int .i64 d)).drew);clear s0 s1 o0 o1 o2 o3 f0 f1 f2 k0 k1 y0 y1 y2 y3;generalize hw3:(((((((w2.setCell ⟨ss,at_*2,none⟩ (.bool true)).setCell ⟨ss,at_*2+1,none⟩ (.string key)).setCell ⟨sr,at_*4,none⟩ (.int .i64 a)).setCell ⟨sr,at_*4+1,none⟩ (.int .i64 b)).setCell ⟨sr,at_*4+2,none⟩ (.string q)).setCell ⟨sr,at_*4+3,none⟩ (.int .i64 d)).drew)=w3 at *;clear hw3;have k2:w3.cell? ⟨g,2,none⟩=some (.int .i64 (u:Int)):=mg.1.k.cell 2;have f3:w3.frozen? ⟨g,2,none⟩=false:=mg.1.k.frozen _;go_wp2
 go_end0
 exact⟨rfl,mg.1.used _ _ (by omega),mX.1.setCell (p:=⟨g,2,none⟩) (.inl (by simp)) _⟩
theorem U2 (g ss sr n u:Nat)(S:List kU)(R:List Rc)(w:World)(h:lW w g ss sr n S R u)(hn:n<=100000)(hu:4*u<3*n) :
  Calls Tryz.prog 228 #[.pointer (some ⟨g,0,none⟩)] w fun e w'=>e=.returned (.bool false)/\∃ m,w'=w.drewN m:=by
 have k0:w.cell? ⟨g,0,none⟩=some (.slice (some ⟨ss,0,none⟩) n n):=h.k.cell 0;have k2:w.cell? ⟨g,2,none⟩=some (.int .i64 (u:Int)):=h.k.cell 2;have h1:IntKind.i64.wrap (4*(u:Int))=4*(u:Int):=aW _ (by omega);have h2:IntKind.i64.wrap (3*(n:Int))=3*(n:Int):=aW _ (by omega);have h3:¬(3*(n:Int)<=4*(u:Int)):=by omega
 have h4:decide (3*(n:Int)<=4*(u:Int))=false:=by simp;omega
 go_enter Tryz.func228,Tryz.ntmps228
 go_wp2_with fail
 go_quiet (fail)
 go_wp2_with fail
 go_ret
 exact⟨by first | rfl | simp[h4],_,rfl⟩
theorem lW.jS {w w':World} {g ss sr n u:Nat} {S:List kU} {R:List Rc} {K:List Nat} (h:lW w g ss sr n S R u) (ho:jR K w w') (h1:g∉K) (h2:ss∉K) (h3:sr∉K):lW w' g ss sr n S R u:=
 ⟨h.k.jS ho h1,Bk.jS h.s ho h2,Bk.jS h.r ho h3,h.ns,h.nr,h.d1,h.d2,h.d3⟩
theorem nI.jS {w w':World}{g ss sr n u:Nat}{S:List kU}{R:List Int}{K:List Nat}(h:nI w g ss sr n S R u)(ho:jR K w w')(h1:g∉K)(h2:ss∉K)(h3:sr∉K):nI w' g ss sr n S R u:=
 ⟨h.k.jS ho h1,Bk.jS h.s ho h2,Bk.jS h.o ho h3,h.ns,h.no,h.d1,h.d2,h.d3⟩
def Rc.Fe (r:Rc):Prop:=r.st=1/\0<=r.ow/\r.ow<64/\0<r.nm.size/\r.nm.size<=63/\1<=r.dl/\r.dl<=1073741824
theorem GZ (r:Rc)(h:r.Fe)(w:World):Calls Tryz.prog 225 #[.agg r.arr] w fun e w'=>e=.returned (.bool true)/\Below w.heap.size w w':=by
 obtain⟨a,b,q,d⟩:=r;obtain⟨h1,h2,h3,h4,h5,h6,h7⟩:=h;dsimp only at h1 h2 h3 h4 h5 h6 h7;subst h1;show Calls Tryz.prog 225 #[.agg (m_ 1 b q d)] w _;obtain⟨x0,x1,x2,x3⟩:=ahZ w 1 b q d;have hqe:q.toList.isEmpty=false:=by rw[size_empty];exact bD (by omega)
 go_enter Tryz.func225,Tryz.ntmps225
 go_wp2_with fail
 go_ret
 exact⟨rfl,(ai _ _).alloc (ag _) _⟩
theorem ae0 (g ss sr n u at_:Nat)(S:List kU)(R:List Rc)(key:ByteArray)(r:Rc)(w:World)(h:lW w g ss sr n S R u)(hn0:0<n)(hn:n<=100000)(hk:key.size<=1000000)(hu:4*u<3*n)(hr:r.Fe)
  (z:Nat) (hz:z<n) (hfree:(Sl.gt S z).u=false) (hf:Sl.find (qH n) S key=(at_,false)) (hat:at_<n) :
  Calls Tryz.prog 166 #[.pointer (some ⟨g,0,none⟩),.string key,.agg r.arr] w fun e w'=>e=.returned (.int .i64 0)/\lW w' g ss sr n (S.set at_ ⟨true,key⟩) (R.set at_ r) (u+1)/\jR [g,ss,sr] w w':=by
 have HF:=jP (fun w hS=>yw ss n n S key w hS h.ns hn0 hn hk z hz hfree);rw[hf] at HF;have HI:=jP (fun w hS=>WY g ss sr n u at_ S R key r w hS hn0 hn hk (by omega) z hz hfree hf hat);have HC:=jP (fun w=>GZ r hr w);obtain⟨a,b,q,d⟩:=r;obtain rfl:a=1:=hr.1;have HC':Hid (∀ w:World,Calls Tryz.prog 225 #[.agg (m_ 1 b q d)] w fun e w'=>e=.returned (.bool true)/\Below w.heap.size w w'):=HC.1;have HI':Hid (∀ w:World,lW w g ss sr n S R u->Calls Tryz.prog 230 #[.pointer (some ⟨g,0,none⟩),.string key,.agg (m_ 1 b q d)] w fun e w'=>e=.returned (.tuple #[])/\lW w' g ss sr n (S.set at_ ⟨true,key⟩) (R.set at_ ⟨1,b,q,d⟩) (u+1)/\jR [g,ss,sr] w w'):=HI.1;clear HC HI hr;show Calls Tryz.prog 166 #[.pointer (some ⟨g,0,none⟩),.string key,.agg (m_ 1 b q d)] w _;have HS:=jP (show lW ((w.alloc (.cells #[.pointer (some ⟨g,0,none⟩)] 161)).alloc (.cells (m_ 1 b q d) 41)) g ss sr n S R u from h.below (mP w _ _) (ag _));have HP:=jP ((Bk.new w 161 #[.pointer (some ⟨g,0,none⟩)]).alloc (.cells (m_ 1 b q d) 41));have HX:=jP (l_ w (.cells #[.pointer (some ⟨g,0,none⟩)] 161) 41 (m_ 1 b q d));have HO:=jP (((jR.refl [g,ss,sr] w).alloc (.cells #[.pointer (some ⟨g,0,none⟩)] 161)).alloc (.cells (m_ 1 b q d) 41));have hgw:g<w.heap.size:=h.k.lt;have hsw:sr<w.heap.size:=h.r.lt;have ahf:ss<w.heap.size:=h.s.lt;clear hfree hf h;go_enter Tryz.func166,Tryz.ntmps166
 go_wp2_with fail
 refine (HC'.out _).mono ?_;rintro e w2 ⟨rfl,hb2⟩;have HS2:=jP (HS.1.below hb2 (ag _));have HP2:=jP (HP.1.below hb2 HP.1.lt);have lV:=jP (HX.1.below hb2 HX.1.lt);have lG:=jP (HO.1.trans (jR.below (S:=[g,ss,sr]) hb2 (ag _)));have hs2:w.heap.size+2<=w2.heap.size:=by have:=hb2.size;simp at this;omega
 clear hb2 HS HP HX HO;have p0:w2.cell? ⟨w.heap.size,0,none⟩=some (.pointer (some ⟨g,0,none⟩)):=HP2.1.cell 0;have k0:w2.cell? ⟨g,0,none⟩=some (.slice (some ⟨ss,0,none⟩) n n):=HS2.1.k.cell 0;go_wp2_with fail
 refine (HF.1 _ HS2.1.s).mono ?_;rintro e w3 ⟨rfl,hb3⟩;have mg:=jP (HS2.1.below hb3 (ag _));have Cj:=jP (HP2.1.below hb3 HP2.1.lt);have lM:=jP (lV.1.below hb3 lV.1.lt);have mX:=jP (lG.1.trans (jR.below (S:=[g,ss,sr]) hb3 (ag _)));have hs3:=hb3.size;clear hb3 HS2 HP2 lV lG p0 k0;have p0:w3.cell? ⟨w.heap.size,0,none⟩=some (.pointer (some ⟨g,0,none⟩)):=Cj.1.cell 0;have x0:w3.cell? ⟨w.heap.size+1,0,none⟩=some (.int .i64 1):=lM.1.cell 0;have Si:=jP (U2 g ss sr n u S R w3 mg.1 hn hu);go_wp2_with fail
 refine Si.1.mono ?_;rintro e w4 ⟨rfl,m,rfl⟩;have amm:=jP (U2 g ss sr n u S R (w3.drewN m) (mg.1.drewN m) hn hu);go_wp2_with fail
 refine amm.1.mono ?_;rintro e w5 ⟨rfl,m2,rfl⟩;have x1:w3.cell? ⟨w.heap.size+1,1,none⟩=some (.int .i64 b):=lM.1.cell 1;have x2:w3.cell? ⟨w.heap.size+1,2,none⟩=some (.string q):=lM.1.cell 2;have x3:w3.cell? ⟨w.heap.size+1,3,none⟩=some (.int .i64 d):=lM.1.cell 3;go_wp2_with fail
 refine (HI'.out _ (mg.1.drewN (m+m2))).mono ?_;rintro e w6 ⟨rfl,hs6,kT⟩;have o6:=jP hs6;have lI:=jP ((mX.1.drewN (m+m2)).trans kT);clear hs6 kT;go_wp2
 go_ret
 exact⟨rfl,o6.1,lI.1⟩
theorem abo (g ss sr n u at_:Nat)(S:List kU)(R:List Rc)(key:ByteArray)(r:Rc)(w:World)(h:lW w g ss sr n S R u)(hn0:0<n)(hn:n<=100000)(hk:key.size<=1000000)(hr:r.Fe)
  (z:Nat) (hz:z<n) (hfree:(Sl.gt S z).u=false) (hf:Sl.find (qH n) S key=(at_,true)) (hat:at_<n) :
  Calls Tryz.prog 166 #[.pointer (some ⟨g,0,none⟩),.string key,.agg r.arr] w fun e w'=>e=.returned (.int .i64 0)/\lW w' g ss sr n S (R.set at_ r) u/\jR [g,ss,sr] w w':=by
 have HF:=jP (fun w hS=>yw ss n n S key w hS h.ns hn0 hn hk z hz hfree);rw[hf] at HF;have HC:=jP (fun w=>GZ r hr w);obtain⟨a,b,q,d⟩:=r;obtain rfl:a=1:=hr.1;have HC':Hid (∀ w:World,Calls Tryz.prog 225 #[.agg (m_ 1 b q d)] w fun e w'=>e=.returned (.bool true)/\Below w.heap.size w w'):=HC.1;clear HC hr;show Calls Tryz.prog 166 #[.pointer (some ⟨g,0,none⟩),.string key,.agg (m_ 1 b q d)] w _;have HS:=jP (show lW ((w.alloc (.cells #[.pointer (some ⟨g,0,none⟩)] 161)).alloc (.cells (m_ 1 b q d) 41)) g ss sr n S R u from h.below (mP w _ _) (ag _));have HP:=jP ((Bk.new w 161 #[.pointer (some ⟨g,0,none⟩)]).alloc (.cells (m_ 1 b q d) 41));have HX:=jP (l_ w (.cells #[.pointer (some ⟨g,0,none⟩)] 161) 41 (m_ 1 b q d));have HO:=jP (((jR.refl [g,ss,sr] w).alloc (.cells #[.pointer (some ⟨g,0,none⟩)] 161)).alloc (.cells (m_ 1 b q d) 41));have hgw:g<w.heap.size:=h.k.lt;have hsw:sr<w.heap.size:=h.r.lt;have ahf:ss<w.heap.size:=h.s.lt;clear hfree hf h;go_enter Tryz.func166,Tryz.ntmps166
 go_wp2_with fail
 refine (HC'.out _).mono ?_;rintro e w2 ⟨rfl,hb2⟩;have HS2:=jP (HS.1.below hb2 (ag _));have HP2:=jP (HP.1.below hb2 HP.1.lt);have lV:=jP (HX.1.below hb2 HX.1.lt);have lG:=jP (HO.1.trans (jR.below (S:=[g,ss,sr]) hb2 (ag _)));have hs2:w.heap.size+2<=w2.heap.size:=by have:=hb2.size;simp at this;omega
 clear hb2 HP HX HO;have p0:w2.cell? ⟨w.heap.size,0,none⟩=some (.pointer (some ⟨g,0,none⟩)):=HP2.1.cell 0;have k0:w2.cell? ⟨g,0,none⟩=some (.slice (some ⟨ss,0,none⟩) n n):=HS2.1.k.cell 0;go_wp2_with fail
 refine (HF.1 _ HS2.1.s).mono ?_;rintro e w3 ⟨rfl,hb3⟩;have mg:=jP (HS2.1.below hb3 (ag _));have Cj:=jP (HP2.1.below hb3 HP2.1.lt);have lM:=jP (lV.1.below hb3 lV.1.lt);have mX:=jP (lG.1.trans (jR.below (S:=[g,ss,sr]) hb3 (ag _)));have hs3:=hb3.size;clear hb3 HS2 HP2 lV lG p0 k0;have p0:w3.cell? ⟨w.heap.size,0,none⟩=some (.pointer (some ⟨g,0,none⟩)):=Cj.1.cell 0;have x0:w3.cell? ⟨w.heap.size+1,0,none⟩=some (.int .i64 1):=lM.1.cell 0;have x1:w3.cell? ⟨w.heap.size+1,1,none⟩=some (.int .i64 b):=lM.1.cell 1;have x2:w3.cell? ⟨w.heap.size+1,2,none⟩=some (.string q):=lM.1.cell 2;have x3:w3.cell? ⟨w.heap.size+1,3,none⟩=some (.int .i64 d):=lM.1.cell 3;have k1:w3.cell? ⟨g,1,none⟩=some (.slice (some ⟨sr,0,none⟩) n n):=mg.1.k.cell 1;obtain⟨o,ho⟩:∃ o,R[at_]?=some o:=⟨_,au (by rw[HS.1.nr];exact hat)⟩;obtain⟨o0,o1,o2,o3⟩:=mg.1.r.cell ho;have f2:∀ i:Nat,w3.frozen? ⟨sr,i,none⟩=false:=fun i=>mg.1.r.frozen _;have e1:sr≠w.heap.size:=by omega
 have e2:sr≠w.heap.size+1:=by omega
 have d2:g≠sr:=mg.1.d2;clear ho HS;go_wp2_with fail
 go_region
 have zK:=jP (mg.1.agH at_ ⟨1,b,q,d⟩).drew;have lC:=jP ((((mX.1.setCell (p:=⟨sr,at_*4,none⟩) (.inl (by simp)) (.int .i64 1)).setCell (p:=⟨sr,at_*4+1,none⟩) (.inl (by simp)) (.int .i64 b)).setCell (p:=⟨sr,at_*4+2,none⟩) (.inl (by simp)) (.string q)).setCell (p:=⟨sr,at_*4+3,none⟩) (.inl (by simp)) (.int .i64 d)).drew;go_wp2
 go_ret
 exact⟨rfl,zK.1,lC.1⟩
theorem L6 (a b:Int)(s:ByteArray)(d client now:Int)(ha:a=0\/a=1)(w:World) :
  Calls Tryz.prog 267 #[.agg (m_ a b s d),.int .i64 1,.int .i64 client,.int .i64 now] w fun e w'=>e=.returned (.int .i64 (if Rc.live ⟨a,b,s,d⟩ now then 24 else 0))/\Below w.heap.size w w':=by
 exact aaY ⟨a,b,s,d⟩ 1 client now (by omega) (by omega) w
theorem D8 (a b:Int)(s:ByteArray)(d:Int)(ha:a=0\/a=1)(w:World) :
  Calls Tryz.prog 224 #[.agg (m_ a b s d),.int .i64 1] w fun e w'=>e=.returned (.int .i64 (1-a))/\Below w.heap.size w w':=by
 have:=ZA ⟨a,b,s,d⟩ 1 (by omega) (by omega) w;rcases ha with rfl | rfl<;>exact this
theorem Hq (now ttl:Int)(h0:0<=now)(h1:1<=ttl)(h2:now+ttl<=1073741824)(w:World):Calls Tryz.prog 266 #[.int .i64 now,.int .i64 ttl] w fun e w'=>e=.returned (.tuple #[.int .i64 (now+ttl),.int .i64 0])/\w'=w:=by
 have h:=QI now ttl h0 (by omega) h1 (by omega) w;rw[show Dm.deadline now ttl=(now+ttl,0) by
  unfold Dm.deadline;rw[ah (by rw[Dm.Io h0 (by omega)];simp;omega),ah (by omega)]] at h
 exact h
theorem Xw (a b:Int)(s:ByteArray)(d client:Int)(nm:ByteArray)(dl:Int)(w:World) :
  Calls Tryz.prog 268 #[.agg (m_ a b s d),.int .i64 1,.int .i64 client,.string nm,.int .i64 dl] w fun e w'=>e=.returned (.agg (m_ 1 client nm dl))/\Below w.heap.size w w':=by
 have HX:=jP (l_ w (.cells (m_ a b s d) 41) 41 (m_ 1 client nm dl));have HB:=jP (mP w (.cells (m_ a b s d) 41) (.cells (m_ 1 client nm dl) 41));go_enter Tryz.func268,Tryz.ntmps268
 go_wp2_with fail
 exact aS (fP (P:=Tryz.prog) (p:=10) (ty:=41) rfl _ _ (w.heap.size+1) _ _ _ _ rfl HX.1 Tryz.underlying41 rfl (by kernel_rfl)) rfl ⟨rfl,HB.1⟩
theorem G6 (w:World):Calls Tryz.prog 265 #[.int .i64 1] w fun e w'=>e=.returned (.bool true)/\w'=w:=by
 go_enter Tryz.func265,Tryz.ntmps265
 go_wp2_with fail
 go_ret
 exact⟨rfl,rfl⟩
theorem Ul (l:List Rc):∀ u∈nH l,u.oneCell'=true:=by
 intro u hu;obtain⟨n,_,hn⟩:=List.mem_flatMap.1 hu;simp[Rc.cells] at hn;rcases hn with rfl | rfl | rfl | rfl<;>rfl
theorem Wn (l m:List Rc):nH (l++m)=nH l++nH m:=by simp[nH]
theorem ah3 {w:World}{ops:Array Oper}{rest:List Oper}{o:Oper}{a:Act}{Q:Exit->Act->World->Prop}(hw:Region.wanted o (yielded ops a.tmps)=true)(s x:Operand)
  (ho:o.op=.call { callee:=.builtin .append,args:=#[s,x],argTypes:=#[57,57] })
  {base:Nat} {v:Value} {n:Nat} {xs:List Rc} (hs:a.eval s=v) (hown:w.ownsRow base 41 4 v n (nH xs))
  {B:Nat} {A:Option Addr} {m c:Nat} {ys:List Rc} (hx:a.eval x=.slice A m c) (hr:Rd w B 4 A m (nH ys))
  (hlen:n+m<=1000000000) (hbase:base<=w.heap.size)
  (h:∀ A' c' w',w'.ownsRow base 41 4 (.slice A' (n+m) c') (n+m) (nH (xs++ys))->w.grownBy w' v.ownBlock ->
   ((Value.slice A' (n+m) c').ownBlock=v.ownBlock\/(Value.slice A' (n+m) c').ownBlock=some w.heap.size)->wpList Tryz.prog ops Q rest (a.put o.dst (.slice A' (n+m) c')) w') :
  wpList Tryz.prog ops Q (o::rest) a w:=by
 obtain⟨i0,hi,hz0,hz1,hz2⟩:=dR IK;refine rV hw s x _ ho base _ i0 _ 4 40 Tryz.underlying57 hi hz0 hz1 hz2 rfl (by decide) v n (nH xs) hs hown B A m c (nH ys) hx hr (Ul ys)
  (by unfold maxLen;omega) (by omega) hbase ?_
 intro v' w' h2 h3 h4;obtain⟨A',c',rfl⟩:=o7 h2;rw[<-Wn] at h2;exact h A' c' w' h2 h3 h4
theorem Yt {w:World}{z:Nat}(hz:w.heap.size=z)(r:Rc):Rd (w.alloc (.cells (m_ r.st r.ow r.nm r.dl) 41)) (z+1) 4 (some ⟨z,0,none⟩) 1 (nH [r]):=by
 subst hz;have hb:=Bk.new w 41 (m_ r.st r.ow r.nm r.dl);refine⟨rfl,fun _=>⟨w.heap.size,0,rfl,by omega,fun j u hu=>?_⟩⟩;rw[bf,hb.cell];simpa[nH,Rc.cells] using hu
theorem IE {w:World}{B:Nat}{A:Option Addr}{x:Nm}(h:Rd w B 3 A 1 (lq [x])):∃ b off,A=some ⟨b,off,none⟩/\b<B/\w.cell? ⟨b,off,none⟩=some (.string x.a)/\w.cell? ⟨b,off+1,none⟩=some (.string x.u)/\w.cell? ⟨b,off+2,none⟩=some (.string x.k):=by
 obtain⟨b,off,e,hb,hc⟩:=h.2 (by simp[lq,Nm.cells]);exact⟨b,off,e,hb,hc 0 _ rfl,hc 1 _ rfl,hc 2 _ rfl⟩
theorem DR {w:World}{B:Nat}{A:Option Addr}{r:Rc}(h:Rd w B 4 A 1 (nH [r])):∃ b off,A=some ⟨b,off,none⟩/\b<B/\w.cell? ⟨b,off,none⟩=some (.int .i64 r.st)/\w.cell? ⟨b,off+1,none⟩=some (.int .i64 r.ow)/\w.cell? ⟨b,off+2,none⟩=some (.string r.nm)/\w.cell? ⟨b,off+3,none⟩=some (.int .i64 r.dl):=by
 obtain⟨b,off,e,hb,hc⟩:=h.2 (by simp[nH,Rc.cells]);exact⟨b,off,e,hb,hc 0 _ rfl,hc 1 _ rfl,hc 2 _ rfl,hc 3 _ rfl⟩
def aap (p:Rs)(l:List Rc)(w:World)(e:Ending)(w':World):Prop:=
 ∃ A c,e=.returned (.tuple #[.agg p.arr,.slice A l.length c])/\w'.ownsRow w.heap.size 41 4 (.slice A l.length c) l.length (nH l)/\Below w.heap.size w w'
@[reducible] def Ap (a b:Int)(s:ByteArray)(st ow:Int)(nm:ByteArray)(dl tk:Int):Array Value:=#[.int .i64 a,.int .i64 b,.string s,.int .i64 st,.int .i64 ow,.string nm,.int .i64 dl,.int .i64 tk]
theorem XY (r:Rc)(client now:Int)(ha:r.st=0\/r.st=1)(h:r.live now=true)(w:World) :
  Calls Tryz.prog 267 #[.agg (m_ r.st r.ow r.nm r.dl),.int .i64 1,.int .i64 client,.int .i64 now] w fun e w'=>e=.returned (.int .i64 24)/\Below w.heap.size w w':=by
 have:=L6 r.st r.ow r.nm r.dl client now ha w;rw[show Rc.live ⟨r.st,r.ow,r.nm,r.dl⟩ now=true from h] at this;exact this
theorem XZ (r:Rc)(client now:Int)(ha:r.st=0\/r.st=1)(h:r.live now=false)(w:World) :
  Calls Tryz.prog 267 #[.agg (m_ r.st r.ow r.nm r.dl),.int .i64 1,.int .i64 client,.int .i64 now] w fun e w'=>e=.returned (.int .i64 0)/\Below w.heap.size w w':=by
 have:=L6 r.st r.ow r.nm r.dl client now ha w;rw[show Rc.live ⟨r.st,r.ow,r.nm,r.dl⟩ now=false from h] at this;exact this
theorem TI (cl cap count client ttl now:Int)(x:Nm)(r:Rc)(An Ar:Option Addr)(cn_ cr B:Nat)(w:World)(hn:Rd w B 3 An 1 (lq [x]))(hr:Rd w B 4 Ar 1 (nH [r]))(hB:B<=w.heap.size)
  (hst:r.st=0\/r.st=1) (hlv:r.live now=true) (h0:0<=now) (h1:1<=ttl) (h2:now+ttl<=1073741824) :
  Calls Tryz.prog 223 #[.agg #[.int .i64 cl,.int .i64 cap],.int .i64 count,.int .i64 client,.int .i64 1,.int .i64 ttl,.slice An 1 cn_,.slice Ar 1 cr,.int .i64 now] w (aap ⟨24,0,x.a,Rc.none,now⟩ [] w):=by
 have HL:=jP (fun w=>XY r client now hst hlv w);have HG:=jP (fun w=>D8 r.st r.ow r.nm r.dl hst w);generalize 1-r.st=gr at *;have HN:=jP hn;have HR:=jP hr;have HB0:=jP (mP w (.cells #[.int .i64 cl,.int .i64 cap] 38) (.cells (Ap 0 0 ⟨#[]⟩ 0 0 ⟨#[]⟩ 0 0) 43));have Ij:=jP ((Bk.new w 38 #[.int .i64 cl,.int .i64 cap]).alloc (.cells (Ap 0 0 ⟨#[]⟩ 0 0 ⟨#[]⟩ 0 0) 43));have yY:=jP (l_ w (.cells #[.int .i64 cl,.int .i64 cap] 38) 43 (Ap 0 0 ⟨#[]⟩ 0 0 ⟨#[]⟩ 0 0));clear hn hr hlv hst;go_enter Tryz.func223,Tryz.ntmps223
 go_wp2_with fail
 refine (G6 _).mono ?_;rintro e w1 ⟨rfl,rfl⟩;go_wp2_with fail
 refine (Hq now ttl h0 h1 h2 _).mono ?_;rintro e w1 ⟨rfl,rfl⟩;go_wp2_with fail
 have ry:=jP (HN.1.below (HB0.1.mono hB));have HR2:=jP (HR.1.below (HB0.1.mono hB));generalize hw2:(w.alloc (.cells #[.int .i64 cl,.int .i64 cap] 38)).alloc (.cells (Ap 0 0 ⟨#[]⟩ 0 0 ⟨#[]⟩ 0 0) 43)=w2 at *;have hs2:w.heap.size+2<=w2.heap.size:=by rw[<-hw2];simp
 clear hw2 HN HR;obtain⟨bn,on,rfl,hbn,n0,n1,n2⟩:=IE ry.1;obtain⟨br,ql,rfl,hbr,r0,r1,r2,r3⟩:=DR HR2.1;have HR0:=jP r0;have HR1:=jP r1;have amd:=jP r2;have HR3:=jP r3;have alW:bn<w2.heap.size:=by omega
 have alV:br<w2.heap.size:=by omega
 refine fG 1 ?_;rw[dN];go_wp2_with fail
 refine (HL.1 _).mono ?_;rintro e w3 ⟨rfl,hb3⟩;have hs3:w2.heap.size+2<=w3.heap.size:=by have:=hb3.size;simp at this;omega
 have wQ:=mP w2 (.cells #[.string x.a,.string x.u,.string x.k] 30) (.cells (m_ r.st r.ow r.nm r.dl) 41);have zh:=jP (((Bk.new w2 30 #[.string x.a,.string x.u,.string x.k]).alloc (.cells (m_ r.st r.ow r.nm r.dl) 41)).below hb3 (by simp;omega));have vK:=jP ((l_ w2 (.cells #[.string x.a,.string x.u,.string x.k] 30) 41 (m_ r.st r.ow r.nm r.dl)).below hb3 (by simp));have wQ:=wQ.trans (hb3.mono (by simp;omega));have Ey:=jP (Ij.1.below wQ Ij.1.lt);have Cj:=jP (yY.1.below wQ yY.1.lt);have HB3:=jP (HB0.1.trans (wQ.mono (by omega)));have Sv:=jP wQ;clear hb3 wQ Ij yY HB0 n0 n1 n2 r0 r1 r2 r3;have q0:w3.cell? ⟨w2.heap.size+1,0,none⟩=some (.int .i64 r.st):=vK.1.cell 0;have q1:w3.cell? ⟨w2.heap.size+1,1,none⟩=some (.int .i64 r.ow):=vK.1.cell 1;have q2:w3.cell? ⟨w2.heap.size+1,2,none⟩=some (.string r.nm):=vK.1.cell 2;have q3:w3.cell? ⟨w2.heap.size+1,3,none⟩=some (.int .i64 r.dl):=vK.1.cell 3;go_wp2_with fail
 refine (HG.1 _).mono ?_;rintro e w4 ⟨rfl,hb4⟩;have hs4:=hb4.size;have FX:=jP (zh.1.below hb4 zh.1.lt);have H9:=jP (vK.1.below hb4 vK.1.lt);have zO:=jP (Ey.1.below hb4 Ey.1.lt);have xE:=jP (Cj.1.below hb4 Cj.1.lt);have HB4:=jP (HB3.1.trans (hb4.mono (by omega)));have adv:=jP (Sv.1.trans (hb4.mono (by omega)));clear hb4 zh vK Ey Cj HB3 Sv q0 q1 q2 q3;have n0:w4.cell? ⟨w2.heap.size,0,none⟩=some (.string x.a):=FX.1.cell 0;have c1:w4.cell? ⟨w.heap.size,1,none⟩=some (.int .i64 cap):=zO.1.cell 1;have p0:∀ i:Nat,w4.cell? ⟨w.heap.size+1,i,none⟩=(Ap 0 0 ⟨#[]⟩ 0 0 ⟨#[]⟩ 0 0)[i]?:=fun i=>xE.1.cell i;have f0:∀ i:Nat,w4.frozen? ⟨w.heap.size+1,i,none⟩=false:=fun i=>xE.1.frozen i;go_wp2_with fail
 exact aS (mZ (P:=Tryz.prog) (p:=16) (u:=17) (ty:=43) rfl _ _ (w.heap.size+1) (Rs.arr ⟨24,0,x.a,Rc.none,now⟩) rfl (KO xE.1 (.int .i64 24) (.int .i64 0) (.string x.a) (.int .i64 0) (.int .i64 0) (.string ⟨#[]⟩) (.int .i64 0) (.int .i64 now)) iT (by kernel_rfl)) rfl
  ⟨none,0,rfl,aH _ _ _ _,Q4 HB4.1 (by omega) _ _ _ _ _ _ _ _⟩
theorem TG (cl cap count client ttl now gr:Int)(x:Nm)(r:Rc)(An Ar:Option Addr)(cn_ cr B:Nat)(w:World)(hn:Rd w B 3 An 1 (lq [x]))(hr:Rd w B 4 Ar 1 (nH [r]))(hB:B<=w.heap.size)
  (hst:r.st=0\/r.st=1) (h0:0<=now) (hcnt:0<=count/\count<=1000) (hlv:r.live now=false) (h1:1<=ttl) (h2:now+ttl<=1073741824) (hgr:1-r.st=gr) (hcap:(gr=1/\count<cap)\/gr=0) :
  Calls Tryz.prog 223 #[.agg #[.int .i64 cl,.int .i64 cap],.int .i64 count,.int .i64 client,.int .i64 1,.int .i64 ttl,.slice An 1 cn_,.slice Ar 1 cr,.int .i64 now] w (aap ⟨0,-1,ByteArray.empty,Rc.none,now⟩ [⟨1,client,x.a,now+ttl⟩] w):=by
 have HL:=jP (fun w=>XZ r client now hst hlv w);have hg:=fun w=>D8 r.st r.ow r.nm r.dl hst w;rw[hgr] at hg;have HG:=jP hg;have HA:=jP (fun w=>Xw r.st r.ow r.nm r.dl client x.a (now+ttl) w);have HN:=jP hn;have HR:=jP hr;have HB0:=jP (mP w (.cells #[.int .i64 cl,.int .i64 cap] 38) (.cells (Ap 0 0 ⟨#[]⟩ 0 0 ⟨#[]⟩ 0 0) 43));have Ij:=jP ((Bk.new w 38 #[.int .i64 cl,.int .i64 cap]).alloc (.cells (Ap 0 0 ⟨#[]⟩ 0 0 ⟨#[]⟩ 0 0) 43));have yY:=jP (l_ w (.cells #[.int .i64 cl,.int .i64 cap] 38) 43 (Ap 0 0 ⟨#[]⟩ 0 0 ⟨#[]⟩ 0 0));clear hn hr hlv hst hgr hg;rcases hcap with ⟨rfl,hcap⟩ | rfl
 all_goals
  go_enter Tryz.func223,Tryz.ntmps223
  go_wp2_with fail
  refine (G6 _).mono ?_;rintro e w1 ⟨rfl,rfl⟩;go_wp2_with fail
  refine (Hq now ttl h0 h1 h2 _).mono ?_;rintro e w1 ⟨rfl,rfl⟩;go_wp2_with fail
  have ry:=jP (HN.1.below (HB0.1.mono hB));have HR2:=jP (HR.1.below (HB0.1.mono hB));generalize hw2:(w.alloc (.cells #[.int .i64 cl,.int .i64 cap] 38)).alloc (.cells (Ap 0 0 ⟨#[]⟩ 0 0 ⟨#[]⟩ 0 0) 43)=w2 at *;have hs2:w.heap.size+2<=w2.heap.size:=by rw[<-hw2];simp
  clear hw2 HN HR;obtain⟨bn,on,rfl,hbn,n0,n1,n2⟩:=IE ry.1;obtain⟨br,ql,rfl,hbr,r0,r1,r2,r3⟩:=DR HR2.1;have HR0:=jP r0;have HR1:=jP r1;have amd:=jP r2;have HR3:=jP r3;have alW:bn<w2.heap.size:=by omega
  have alV:br<w2.heap.size:=by omega
  refine fG 2 ?_;rw[dN];go_wp2_with fail
  refine (HL.1 _).mono ?_;rintro e w3 ⟨rfl,hb3⟩;have hs3:w2.heap.size+2<=w3.heap.size:=by have:=hb3.size;simp at this;omega
  have wQ:=mP w2 (.cells #[.string x.a,.string x.u,.string x.k] 30) (.cells (m_ r.st r.ow r.nm r.dl) 41);have zh:=jP (((Bk.new w2 30 #[.string x.a,.string x.u,.string x.k]).alloc (.cells (m_ r.st r.ow r.nm r.dl) 41)).below hb3 (by simp;omega));have vK:=jP ((l_ w2 (.cells #[.string x.a,.string x.u,.string x.k] 30) 41 (m_ r.st r.ow r.nm r.dl)).below hb3 (by simp));have wQ:=wQ.trans (hb3.mono (by simp;omega));have Ey:=jP (Ij.1.below wQ Ij.1.lt);have Cj:=jP (yY.1.below wQ yY.1.lt);have HB3:=jP (HB0.1.trans (wQ.mono (by omega)));have Sv:=jP wQ;clear hb3 wQ Ij yY HB0 n0 n1 n2 r0 r1 r2 r3;have q0:w3.cell? ⟨w2.heap.size+1,0,none⟩=some (.int .i64 r.st):=vK.1.cell 0;have q1:w3.cell? ⟨w2.heap.size+1,1,none⟩=some (.int .i64 r.ow):=vK.1.cell 1;have q2:w3.cell? ⟨w2.heap.size+1,2,none⟩=some (.string r.nm):=vK.1.cell 2;have q3:w3.cell? ⟨w2.heap.size+1,3,none⟩=some (.int .i64 r.dl):=vK.1.cell 3;go_wp2_with fail
  refine (HG.1 _).mono ?_;rintro e w4 ⟨rfl,hb4⟩;have hs4:=hb4.size;have FX:=jP (zh.1.below hb4 zh.1.lt);have H9:=jP (vK.1.below hb4 vK.1.lt);have zO:=jP (Ey.1.below hb4 Ey.1.lt);have xE:=jP (Cj.1.below hb4 Cj.1.lt);have HB4:=jP (HB3.1.trans (hb4.mono (by omega)));have adv:=jP (Sv.1.trans (hb4.mono (by omega)));clear hb4 zh vK Ey Cj HB3 Sv q0 q1 q2 q3;have n0:w4.cell? ⟨w2.heap.size,0,none⟩=some (.string x.a):=FX.1.cell 0;have c1:w4.cell? ⟨w.heap.size,1,none⟩=some (.int .i64 cap):=zO.1.cell 1;have p0:∀ i:Nat,w4.cell? ⟨w.heap.size+1,i,none⟩=(Ap 0 0 ⟨#[]⟩ 0 0 ⟨#[]⟩ 0 0)[i]?:=fun i=>xE.1.cell i;have f0:∀ i:Nat,w4.frozen? ⟨w.heap.size+1,i,none⟩=false:=fun i=>xE.1.frozen i;have q0:w4.cell? ⟨w2.heap.size+1,0,none⟩=some (.int .i64 r.st):=H9.1.cell 0;have q1:w4.cell? ⟨w2.heap.size+1,1,none⟩=some (.int .i64 r.ow):=H9.1.cell 1;have q2:w4.cell? ⟨w2.heap.size+1,2,none⟩=some (.string r.nm):=H9.1.cell 2;have q3:w4.cell? ⟨w2.heap.size+1,3,none⟩=some (.int .i64 r.dl):=H9.1.cell 3;go_wp2_with fail
  refine (HA.1 _).mono ?_;rintro e w5 ⟨rfl,hb5⟩;have hs5:=hb5.size;have Kw:=jP (xE.1.below hb5 xE.1.lt);have nS:=jP (HB4.1.trans (hb5.mono (by omega)));have amg:=jP ((adv.1.trans (hb5.mono (by omega))));clear hb5 FX H9 zO xE HB4 adv q0 q1 q2 q3 n0 c1 p0 f0;go_wp2_with (at_builtin;refine ah3 (by rfl) _ _ rfl (base:=w.heap.size+2) (xs:=[]) rfl (aH _ _ _ _) rfl (Yt (z:=w5.heap.size) rfl ⟨1,client,x.a,now+ttl⟩) (by omega) (by simp;omega) ?_)
  intro A6 c6 w6 kT Fb _;have acs:Below w5.heap.size w5 w6:=((ai _ w5).alloc (ag _) _).grown Fb (by simp) (fun q h=>by cases h);have hb6:Below (w.heap.size+2) w5 w6:=acs.mono (by omega);have apo:=jP (amg.1.trans (acs.mono (by omega)));clear acs;have lI:=jP (show w6.ownsRow (w.heap.size+2) 41 4 (.slice A6 1 c6) 1 (nH [⟨1,client,x.a,now+ttl⟩]) from kT);have Kv:=jP (Kw.1.below hb6 (by omega));have mY:=jP (nS.1.trans (hb6.mono (by omega)));have hs6:w5.heap.size<=w6.heap.size:=hb6.size;clear kT Fb Kw nS;go_wp2_with fail
  rw[dN];have qf:=jP (Kv.1.alloc (.cells (Ap 0 (-1) ⟨#[]⟩ 0 0 ⟨#[]⟩ 0 now) 43));have tZ:=jP (mY.1.alloc (by omega) (.cells (Ap 0 (-1) ⟨#[]⟩ 0 0 ⟨#[]⟩ 0 now) 43));have mD:=jP (lI.1.alloc (.cells (Ap 0 (-1) ⟨#[]⟩ 0 0 ⟨#[]⟩ 0 now) 43));go_upto_region 24 with (fail)
  have ND:=jP (Bk.new w6 43 (Ap 0 (-1) ⟨#[]⟩ 0 0 ⟨#[]⟩ 0 now));generalize hw7:w6.alloc (.cells (Ap 0 (-1) ⟨#[]⟩ 0 0 ⟨#[]⟩ 0 now) 43)=w7 at *;clear hw7 Kv mY lI;have p0:w7.cell? ⟨w.heap.size+1,0,none⟩=some (.int .i64 0):=qf.1.cell 0;have f0:w7.frozen? ⟨w.heap.size+1,0,none⟩=false:=qf.1.frozen 0;have p1:w7.cell? ⟨w.heap.size+1,1,none⟩=some (.int .i64 0):=qf.1.cell 1;have f1:w7.frozen? ⟨w.heap.size+1,1,none⟩=false:=qf.1.frozen 1;have p2:w7.cell? ⟨w.heap.size+1,2,none⟩=some (.string ⟨#[]⟩):=qf.1.cell 2;have f2:w7.frozen? ⟨w.heap.size+1,2,none⟩=false:=qf.1.frozen 2;have p3:w7.cell? ⟨w.heap.size+1,3,none⟩=some (.int .i64 0):=qf.1.cell 3;have f3:w7.frozen? ⟨w.heap.size+1,3,none⟩=false:=qf.1.frozen 3;have p4:w7.cell? ⟨w.heap.size+1,4,none⟩=some (.int .i64 0):=qf.1.cell 4;have f4:w7.frozen? ⟨w.heap.size+1,4,none⟩=false:=qf.1.frozen 4;have p5:w7.cell? ⟨w.heap.size+1,5,none⟩=some (.string ⟨#[]⟩):=qf.1.cell 5;have f5:w7.frozen? ⟨w.heap.size+1,5,none⟩=false:=qf.1.frozen 5;have p6:w7.cell? ⟨w.heap.size+1,6,none⟩=some (.int .i64 0):=qf.1.cell 6;have f6:w7.frozen? ⟨w.heap.size+1,6,none⟩=false:=qf.1.frozen 6;have p7:w7.cell? ⟨w.heap.size+1,7,none⟩=some (.int .i64 0):=qf.1.cell 7;have f7:w7.frozen? ⟨w.heap.size+1,7,none⟩=false:=qf.1.frozen 7;have y0:w7.cell? ⟨w6.heap.size,0,none⟩=some (.int .i64 0):=ND.1.cell 0;have y1:w7.cell? ⟨w6.heap.size,1,none⟩=some (.int .i64 (-1)):=ND.1.cell 1;have y2:w7.cell? ⟨w6.heap.size,2,none⟩=some (.string ⟨#[]⟩):=ND.1.cell 2;have y3:w7.cell? ⟨w6.heap.size,3,none⟩=some (.int .i64 0):=ND.1.cell 3;have y4:w7.cell? ⟨w6.heap.size,4,none⟩=some (.int .i64 0):=ND.1.cell 4;have y5:w7.cell? ⟨w6.heap.size,5,none⟩=some (.string ⟨#[]⟩):=ND.1.cell 5;have y6:w7.cell? ⟨w6.heap.size,6,none⟩=some (.int .i64 0):=ND.1.cell 6;have y7:w7.cell? ⟨w6.heap.size,7,none⟩=some (.int .i64 now):=ND.1.cell 7;go_wp2_with fail
  exact aS (mZ (P:=Tryz.prog) (p:=16) (u:=17) (ty:=43) rfl _ _ (w.heap.size+1) (Rs.arr ⟨0,-1,ByteArray.empty,Rc.none,now⟩) rfl (KO qf.1 (.int .i64 0) (.int .i64 (-1)) (.string ⟨#[]⟩) (.int .i64 0) (.int .i64 0) (.string ⟨#[]⟩) (.int .i64 0) (.int .i64 now)) iT (by kernel_rfl)) rfl
   ⟨A6,c6,rfl,lH (Px mD.1 (by omega) _ _ _ _ _ _ _ _) (by omega),Q4 tZ.1 (by omega) _ _ _ _ _ _ _ _⟩
@[reducible] def mA (V:TV)(cl ph:Int)(tx:ByteArray)(op ttl:Int)(nv:Value)(at_:Int)(rv:Value)(p:Rs):Array Value:=
 #[.slice V.cat.A V.cat.n V.cat.c,.slice V.cls.A V.cls.n V.cls.c,.slice V.ku.A V.ku.n V.ku.c,.slice V.jX.A V.jX.n V.jX.c,.slice V.scr.A V.scr.n V.scr.c,.slice V.jU.A V.jU.n V.jU.c,.slice V.jW.A V.jW.n V.jW.c,.slice V.ext.A V.ext.n V.ext.c,.slice V.maps.A V.maps.n V.maps.c,.slice V.dec.A V.dec.n V.dec.c,.slice V.exc.A V.exc.n V.exc.c,.slice V.jY.A V.jY.n V.jY.c,.int .i64 cl,.int .i64 ph,.string tx,.int .i64 op,.int .i64 ttl,nv,.int .i64 at_,rv,.int .i64 p.err,.int .i64 p.at_,.string p.nm,.int .i64 p.rc.st,.int .i64 p.rc.ow,.string p.rc.nm,.int .i64 p.rc.dl,.int .i64 p.tk]
def kC (V:TV)(w:World)(g:Nat)(cl ph:Int)(tx:ByteArray)(op ttl:Int)(nv:Value)(at_:Int)(rv:Value)(p:Rs):Prop:=Bk w g 156 (mA V cl ph tx op ttl nv at_ rv p)
section
variable {V:TV} {w w':World} {g:Nat} {cl ph:Int} {tx:ByteArray} {op ttl:Int} {nv:Value} {at_:Int} {rv:Value} {p:Rs}
theorem kC.bk (h:kC V w g cl ph tx op ttl nv at_ rv p):Bk w g 156 (mA V cl ph tx op ttl nv at_ rv p):=h
theorem kC.fr (h:kC V w g cl ph tx op ttl nv at_ rv p)(i:Nat):w.frozen? ⟨g,i,none⟩=false:=h.bk.frozen i
theorem kC.lt (h:kC V w g cl ph tx op ttl nv at_ rv p):g<w.heap.size:=h.bk.lt
theorem kC.below {B:Nat}(h:kC V w g cl ph tx op ttl nv at_ rv p)(hb:Below B w w')(hg:g<B):kC V w' g cl ph tx op ttl nv at_ rv p:=h.bk.below hb hg
theorem kC.jS {S:List Nat}(h:kC V w g cl ph tx op ttl nv at_ rv p)(ho:jR S w w')(hn:g∉S):kC V w' g cl ph tx op ttl nv at_ rv p:=h.bk.jS ho hn
theorem kC.far (h:kC V w g cl ph tx op ttl nv at_ rv p){q:Addr}(hp:g≠q.block)(u:Value):kC V (w.setCell q u) g cl ph tx op ttl nv at_ rv p:=Bk.far h hp u
theorem kC.ccl (h:kC V w g cl ph tx op ttl nv at_ rv p):w.cell? ⟨g,12,none⟩=some (.int .i64 cl):=h.bk.cell 12
theorem kC.FB (h:kC V w g cl ph tx op ttl nv at_ rv p):w.cell? ⟨g,13,none⟩=some (.int .i64 ph):=h.bk.cell 13
theorem kC.ctx (h:kC V w g cl ph tx op ttl nv at_ rv p):w.cell? ⟨g,14,none⟩=some (.string tx):=h.bk.cell 14
theorem kC.cop (h:kC V w g cl ph tx op ttl nv at_ rv p):w.cell? ⟨g,15,none⟩=some (.int .i64 op):=h.bk.cell 15
theorem kC.QK (h:kC V w g cl ph tx op ttl nv at_ rv p):w.cell? ⟨g,16,none⟩=some (.int .i64 ttl):=h.bk.cell 16
theorem kC.QU (h:kC V w g cl ph tx op ttl nv at_ rv p):w.cell? ⟨g,17,none⟩=some (nv):=h.bk.cell 17
theorem kC.cat (h:kC V w g cl ph tx op ttl nv at_ rv p):w.cell? ⟨g,18,none⟩=some (.int .i64 at_):=h.bk.cell 18
theorem kC.Np (h:kC V w g cl ph tx op ttl nv at_ rv p):w.cell? ⟨g,19,none⟩=some (rv):=h.bk.cell 19
theorem kC.p0 (h:kC V w g cl ph tx op ttl nv at_ rv p):w.cell? ⟨g,20,none⟩=some (.int .i64 p.err):=h.bk.cell 20
theorem kC.p1 (h:kC V w g cl ph tx op ttl nv at_ rv p):w.cell? ⟨g,21,none⟩=some (.int .i64 p.at_):=h.bk.cell 21
theorem kC.p2 (h:kC V w g cl ph tx op ttl nv at_ rv p):w.cell? ⟨g,22,none⟩=some (.string p.nm):=h.bk.cell 22
theorem kC.p3 (h:kC V w g cl ph tx op ttl nv at_ rv p):w.cell? ⟨g,23,none⟩=some (.int .i64 p.rc.st):=h.bk.cell 23
theorem kC.p4 (h:kC V w g cl ph tx op ttl nv at_ rv p):w.cell? ⟨g,24,none⟩=some (.int .i64 p.rc.ow):=h.bk.cell 24
theorem kC.p5 (h:kC V w g cl ph tx op ttl nv at_ rv p):w.cell? ⟨g,25,none⟩=some (.string p.rc.nm):=h.bk.cell 25
theorem kC.p6 (h:kC V w g cl ph tx op ttl nv at_ rv p):w.cell? ⟨g,26,none⟩=some (.int .i64 p.rc.dl):=h.bk.cell 26
theorem kC.p7 (h:kC V w g cl ph tx op ttl nv at_ rv p):w.cell? ⟨g,27,none⟩=some (.int .i64 p.tk):=h.bk.cell 27
theorem kC.sph (h:kC V w g cl ph tx op ttl nv at_ rv p)(x:Int):kC V (w.setCell ⟨g,13,none⟩ (.int .i64 x)) g cl x tx op ttl nv at_ rv p:=h.bk.kM 13 _
theorem kC.sat (h:kC V w g cl ph tx op ttl nv at_ rv p)(x:Int):kC V (w.setCell ⟨g,18,none⟩ (.int .i64 x)) g cl ph tx op ttl nv x rv p:=h.bk.kM 18 _
theorem kC.srv (h:kC V w g cl ph tx op ttl nv at_ rv p)(x:Value):kC V (w.setCell ⟨g,19,none⟩ (x)) g cl ph tx op ttl nv at_ x p:=h.bk.kM 19 _
theorem kC.snv (h:kC V w g cl ph tx op ttl nv at_ rv p)(x:Value):kC V (w.setCell ⟨g,17,none⟩ (x)) g cl ph tx op ttl x at_ rv p:=h.bk.kM 17 _
theorem kC.sop (h:kC V w g cl ph tx op ttl nv at_ rv p)(x:Int):kC V (w.setCell ⟨g,15,none⟩ (.int .i64 x)) g cl ph tx x ttl nv at_ rv p:=h.bk.kM 15 _
theorem kC.agt (h:kC V w g cl ph tx op ttl nv at_ rv p)(x:Int):kC V (w.setCell ⟨g,16,none⟩ (.int .i64 x)) g cl ph tx op x nv at_ rv p:=h.bk.kM 16 _
theorem kC.srs (h:kC V w g cl ph tx op ttl nv at_ rv p)(q:Rs):kC V ((((((((w.setCell ⟨g,20,none⟩ (.int .i64 q.err)).setCell ⟨g,21,none⟩ (.int .i64 q.at_)).setCell ⟨g,22,none⟩ (.string q.nm)).setCell ⟨g,23,none⟩ (.int .i64 q.rc.st)).setCell ⟨g,24,none⟩ (.int .i64 q.rc.ow)).setCell ⟨g,25,none⟩ (.string q.rc.nm)).setCell ⟨g,26,none⟩ (.int .i64 q.rc.dl)).setCell ⟨g,27,none⟩ (.int .i64 q.tk)) g cl ph tx op ttl nv at_ rv q:=by
 have h0:Bk _ g 156 #[.slice V.cat.A V.cat.n V.cat.c,.slice V.cls.A V.cls.n V.cls.c,.slice V.ku.A V.ku.n V.ku.c,.slice V.jX.A V.jX.n V.jX.c,.slice V.scr.A V.scr.n V.scr.c,.slice V.jU.A V.jU.n V.jU.c,.slice V.jW.A V.jW.n V.jW.c,.slice V.ext.A V.ext.n V.ext.c,.slice V.maps.A V.maps.n V.maps.c,.slice V.dec.A V.dec.n V.dec.c,.slice V.exc.A V.exc.n V.exc.c,.slice V.jY.A V.jY.n V.jY.c,.int .i64 cl,.int .i64 ph,.string tx,.int .i64 op,.int .i64 ttl,nv,.int .i64 at_,rv,.int .i64 q.err,.int .i64 p.at_,.string p.nm,.int .i64 p.rc.st,.int .i64 p.rc.ow,.string p.rc.nm,.int .i64 p.rc.dl,.int .i64 p.tk]:=h.bk.kM 20 (.int .i64 q.err);have h1:Bk _ g 156 #[.slice V.cat.A V.cat.n V.cat.c,.slice V.cls.A V.cls.n V.cls.c,.slice V.ku.A V.ku.n V.ku.c,.slice V.jX.A V.jX.n V.jX.c,.slice V.scr.A V.scr.n V.scr.c,.slice V.jU.A V.jU.n V.jU.c,.slice V.jW.A V.jW.n V.jW.c,.slice V.ext.A V.ext.n V.ext.c,.slice V.maps.A V.maps.n V.maps.c,.slice V.dec.A V.dec.n V.dec.c,.slice V.exc.A V.exc.n V.exc.c,.slice V.jY.A V.jY.n V.jY.c,.int .i64 cl,.int .i64 ph,.string tx,.int .i64 op,.int .i64 ttl,nv,.int .i64 at_,rv,.int .i64 q.err,.int .i64 q.at_,.string p.nm,.int .i64 p.rc.st,.int .i64 p.rc.ow,.string p.rc.nm,.int .i64 p.rc.dl,.int .i64 p.tk]:=h0.kM 21 (.int .i64 q.at_);have h2:Bk _ g 156 #[.slice V.cat.A V.cat.n V.cat.c,.slice V.cls.A V.cls.n V.cls.c,.slice V.ku.A V.ku.n V.ku.c,.slice V.jX.A V.jX.n V.jX.c,.slice V.scr.A V.scr.n V.scr.c,.slice V.jU.A V.jU.n V.jU.c,.slice V.jW.A V.jW.n V.jW.c,.slice V.ext.A V.ext.n V.ext.c,.slice V.maps.A V.maps.n V.maps.c,.slice V.dec.A V.dec.n V.dec.c,.slice V.exc.A V.exc.n V.exc.c,.slice V.jY.A V.jY.n V.jY.c,.int .i64 cl,.int .i64 ph,.string tx,.int .i64 op,.int .i64 ttl,nv,.int .i64 at_,rv,.int .i64 q.err,.int .i64 q.at_,.string q.nm,.int .i64 p.rc.st,.int .i64 p.rc.ow,.string p.rc.nm,.int .i64 p.rc.dl,.int .i64 p.tk]:=h1.kM 22 (.string q.nm);have h3:Bk _ g 156 #[.slice V.cat.A V.cat.n V.cat.c,.slice V.cls.A V.cls.n V.cls.c,.slice V.ku.A V.ku.n V.ku.c,.slice V.jX.A V.jX.n V.jX.c,.slice V.scr.A V.scr.n V.scr.c,.slice V.jU.A V.jU.n V.jU.c,.slice V.jW.A V.jW.n V.jW.c,.slice V.ext.A V.ext.n V.ext.c,.slice V.maps.A V.maps.n V.maps.c,.slice V.dec.A V.dec.n V.dec.c,.slice V.exc.A V.exc.n V.exc.c,.slice V.jY.A V.jY.n V.jY.c,.int .i64 cl,.int .i64 ph,.string tx,.int .i64 op,.int .i64 ttl,nv,.int .i64 at_,rv,.int .i64 q.err,.int .i64 q.at_,.string q.nm,.int .i64 q.rc.st,.int .i64 p.rc.ow,.string p.rc.nm,.int .i64 p.rc.dl,.int .i64 p.tk]:=h2.kM 23 (.int .i64 q.rc.st);have h4:Bk _ g 156 #[.slice V.cat.A V.cat.n V.cat.c,.slice V.cls.A V.cls.n V.cls.c,.slice V.ku.A V.ku.n V.ku.c,.slice V.jX.A V.jX.n V.jX.c,.slice V.scr.A V.scr.n V.scr.c,.slice V.jU.A V.jU.n V.jU.c,.slice V.jW.A V.jW.n V.jW.c,.slice V.ext.A V.ext.n V.ext.c,.slice V.maps.A V.maps.n V.maps.c,.slice V.dec.A V.dec.n V.dec.c,.slice V.exc.A V.exc.n V.exc.c,.slice V.jY.A V.jY.n V.jY.c,.int .i64 cl,.int .i64 ph,.string tx,.int .i64 op,.int .i64 ttl,nv,.int .i64 at_,rv,.int .i64 q.err,.int .i64 q.at_,.string q.nm,.int .i64 q.rc.st,.int .i64 q.rc.ow,.string p.rc.nm,.int .i64 p.rc.dl,.int .i64 p.tk]:=h3.kM 24 (.int .i64 q.rc.ow);have h5:Bk _ g 156 #[.slice V.cat.A V.cat.n V.cat.c,.slice V.cls.A V.cls.n V.cls.c,.slice V.ku.A V.ku.n V.ku.c,.slice V.jX.A V.jX.n V.jX.c,.slice V.scr.A V.scr.n V.scr.c,.slice V.jU.A V.jU.n V.jU.c,.slice V.jW.A V.jW.n V.jW.c,.slice V.ext.A V.ext.n V.ext.c,.slice V.maps.A V.maps.n V.maps.c,.slice V.dec.A V.dec.n V.dec.c,.slice V.exc.A V.exc.n V.exc.c,.slice V.jY.A V.jY.n V.jY.c,.int .i64 cl,.int .i64 ph,.string tx,.int .i64 op,.int .i64 ttl,nv,.int .i64 at_,rv,.int .i64 q.err,.int .i64 q.at_,.string q.nm,.int .i64 q.rc.st,.int .i64 q.rc.ow,.string q.rc.nm,.int .i64 p.rc.dl,.int .i64 p.tk]:=h4.kM 25 (.string q.rc.nm);have h6:Bk _ g 156 #[.slice V.cat.A V.cat.n V.cat.c,.slice V.cls.A V.cls.n V.cls.c,.slice V.ku.A V.ku.n V.ku.c,.slice V.jX.A V.jX.n V.jX.c,.slice V.scr.A V.scr.n V.scr.c,.slice V.jU.A V.jU.n V.jU.c,.slice V.jW.A V.jW.n V.jW.c,.slice V.ext.A V.ext.n V.ext.c,.slice V.maps.A V.maps.n V.maps.c,.slice V.dec.A V.dec.n V.dec.c,.slice V.exc.A V.exc.n V.exc.c,.slice V.jY.A V.jY.n V.jY.c,.int .i64 cl,.int .i64 ph,.string tx,.int .i64 op,.int .i64 ttl,nv,.int .i64 at_,rv,.int .i64 q.err,.int .i64 q.at_,.string q.nm,.int .i64 q.rc.st,.int .i64 q.rc.ow,.string q.rc.nm,.int .i64 q.rc.dl,.int .i64 p.tk]:=h5.kM 26 (.int .i64 q.rc.dl);have h7:Bk _ g 156 #[.slice V.cat.A V.cat.n V.cat.c,.slice V.cls.A V.cls.n V.cls.c,.slice V.ku.A V.ku.n V.ku.c,.slice V.jX.A V.jX.n V.jX.c,.slice V.scr.A V.scr.n V.scr.c,.slice V.jU.A V.jU.n V.jU.c,.slice V.jW.A V.jW.n V.jW.c,.slice V.ext.A V.ext.n V.ext.c,.slice V.maps.A V.maps.n V.maps.c,.slice V.dec.A V.dec.n V.dec.c,.slice V.exc.A V.exc.n V.exc.c,.slice V.jY.A V.jY.n V.jY.c,.int .i64 cl,.int .i64 ph,.string tx,.int .i64 op,.int .i64 ttl,nv,.int .i64 at_,rv,.int .i64 q.err,.int .i64 q.at_,.string q.nm,.int .i64 q.rc.st,.int .i64 q.rc.ow,.string q.rc.nm,.int .i64 q.rc.dl,.int .i64 q.tk]:=h6.kM 27 (.int .i64 q.tk);exact h7
theorem kC.t (h:kC V w g cl ph tx op ttl nv at_ rv p):w.cell? ⟨g,0,none⟩=some (.slice V.cat.A V.cat.n V.cat.c)/\w.cell? ⟨g,1,none⟩=some (.slice V.cls.A V.cls.n V.cls.c)/\w.cell? ⟨g,2,none⟩=some (.slice V.ku.A V.ku.n V.ku.c)/\w.cell? ⟨g,3,none⟩=some (.slice V.jX.A V.jX.n V.jX.c)/\w.cell? ⟨g,4,none⟩=some (.slice V.scr.A V.scr.n V.scr.c)/\w.cell? ⟨g,5,none⟩=some (.slice V.jU.A V.jU.n V.jU.c)/\w.cell? ⟨g,6,none⟩=some (.slice V.jW.A V.jW.n V.jW.c)/\w.cell? ⟨g,7,none⟩=some (.slice V.ext.A V.ext.n V.ext.c)/\w.cell? ⟨g,8,none⟩=some (.slice V.maps.A V.maps.n V.maps.c)/\w.cell? ⟨g,9,none⟩=some (.slice V.dec.A V.dec.n V.dec.c)/\w.cell? ⟨g,10,none⟩=some (.slice V.exc.A V.exc.n V.exc.c)/\w.cell? ⟨g,11,none⟩=some (.slice V.jY.A V.jY.n V.jY.c):=
 ⟨h.bk.cell 0,h.bk.cell 1,h.bk.cell 2,h.bk.cell 3,h.bk.cell 4,h.bk.cell 5,h.bk.cell 6,h.bk.cell 7,h.bk.cell 8,h.bk.cell 9,h.bk.cell 10,h.bk.cell 11⟩
end
theorem PK {V:TV}{T:Gm.Tab}{B:Nat}{w:World}(h:j_ w B V T)(hB:B<=w.heap.size)(i:Int)(h0:0<=i)(h1:i<64):Calls Tryz.prog 41 #[kF V,.int .i64 i] w fun e w'=>∃ g lo V',e=.returned (.tuple #[.pointer (some ⟨g,0,none⟩),.int .i64 0]) /\
  kC V' w' g i 0 ByteArray.empty 0 0 (.slice none 0 0) 0 (.slice none 0 0) Rs.zero/\Bh w' lo g V' T/\w.heap.size<=lo/\w.heap.size<=g/\Below w.heap.size w w':=by
 have F0:=jP (Fr.start h hB);clear h hB;go_enter Tryz.func41,Tryz.ntmps41
 go_wp2_with fail
 refine (DK F0.1.tb F0.1.hx).mono ?_;rintro e w1 ⟨rfl,hb1⟩;have F1:=jP (F0.1.step hb1);clear hb1 F0;obtain⟨x0,x1,x2,x3,x4,x5,x6,x7,x8,x9,x10,x11⟩:=F1.1.cells;go_wp2_with fail
 clear x0 x1 x2 x3 x4 x5 x6 x7 x8 x9 x10 x11;refine (acV F1.1.tb F1.1.hx).mono ?_;rintro e w2 ⟨V',rfl,ht2,hb2⟩;have hs1:=F1.1.sz;have hs2:=hb2.size;have HB2:=jP (F1.1.bl.trans (hb2.mono (by omega)));have HT:=jP ht2;have HS:=jP hs1;clear hb2 ht2 hs1 hs2 F1;go_wp2_with fail
 go_ret2
 have h9:=HS.1;exact⟨w2.heap.size,w1.heap.size+2,V',rfl,Bk.new w2 _ _,HT.1.step (Ag.below ((ai _ _).alloc (ag _) _) (ag _)) (by simp),by omega,HB2.1.size,HB2.1.alloc HB2.1.size _⟩
theorem yN {V:TV}(g:Nat)(cl ph:Int)(tx:ByteArray)(op ttl:Int)(nv:Value)(at_:Int)(rv:Value)(p:Rs)(w:World)(h:kC V w g cl ph tx op ttl nv at_ rv p) :
  Calls Tryz.prog 50 #[.pointer (some ⟨g,0,none⟩)] w fun e w'=>e=.returned (.int .i64 ph)/\w'=w:=by
 have c:=h.FB;clear h;go_enter Tryz.func50,Tryz.ntmps50
 go_wp2_with fail
 go_ret
 exact⟨rfl,rfl⟩
theorem Tf {V:TV}(g:Nat)(cl ph:Int)(tx:ByteArray)(op ttl:Int)(nv:Value)(at_:Int)(rv:Value)(p:Rs)(w:World)(h:kC V w g cl ph tx op ttl nv at_ rv p) :
  Calls Tryz.prog 102 #[.pointer (some ⟨g,0,none⟩)] w fun e w'=>e=.returned (.tuple #[.int .i64 op,.int .i64 ttl])/\∃ m,w'=w.drewN m:=by
 have c1:=h.cop;have c2:=h.QK;clear h;go_enter Tryz.func102,Tryz.ntmps102
 go_wp2_with fail
 go_quiet (fail)
 go_wp2_with fail
 go_ret2
 exact⟨rfl,_,rfl⟩
variable {Vt:TV}
theorem run_eql_slice_nil' (w:World)(c:Nat):(binOp .eql 63 (.slice none 0 c) (.slice none 0 0)).run Tryz.prog w=.ok (.bool true) w:=
 jA (P:=Tryz.prog) w 63 30 none 0 0 0 c Tryz.underlying63
section
variable {g:Nat} {cl ph:Int} {tx:ByteArray} {op ttl:Int} {nv:Value} {at_:Int} {rv:Value} {p:Rs} {w:World}
theorem OZ (h:kC Vt w g cl ph tx op ttl nv at_ rv p) :
  Calls Tryz.prog 104 #[.pointer (some ⟨g,0,none⟩)] w fun e w'=>e=.returned (.agg p.arr)/\Below w.heap.size w w':=by
 have c0:=h.p0;have c1:=h.p1;have c2:=h.p2;have c3:=h.p3;have c4:=h.p4;have c5:=h.p5;have c6:=h.p6;have c7:=h.p7;have hlt:=h.lt;have HB:=jP (Bk.new w 43 p.arr);have HL:=jP ((ai w.heap.size w).alloc (ag _) (.cells p.arr 43));clear h;go_enter Tryz.func104,Tryz.ntmps104
 go_wp2_with fail
 exact aS (fP (P:=Tryz.prog) (p:=2) (ty:=43) rfl _ _ w.heap.size _ _ _ _ rfl HB.1 iT rfl (by kernel_rfl)) rfl ⟨rfl,HL.1⟩
theorem uf (x:Int)(h:kC Vt w g cl ph tx op ttl nv at_ rv p) :
  Calls Tryz.prog 168 #[.pointer (some ⟨g,0,none⟩),.int .i64 x] w fun e w'=>e=.returned (.tuple #[])/\kC Vt w' g cl x tx op ttl nv 0 rv p/\jR [g] w w':=by
 have c1:=h.FB;have c2:=h.cat;have f1:=h.fr 13;have f2:=h.fr 18;have H2:=jP ((h.sph x).sat 0);have HO:=jP (((jR.refl [g] w).setCell (p:=⟨g,13,none⟩) (.inl (by simp)) (.int .i64 x)).setCell (p:=⟨g,18,none⟩) (.inl (by simp)) (.int .i64 0));clear h;go_enter Tryz.func168,Tryz.ntmps168
 go_wp2_with fail
 go_end0
 exact⟨rfl,H2.1,HO.1⟩
theorem BP {A:Option Addr}{n c:Nat}(x:Int)(h:kC Vt w g cl ph tx op ttl (.slice A n c) at_ rv p)(hl:at_+1=n)(h0:0<=at_)(hn:n<=1000) :
  Calls Tryz.prog 164 #[.pointer (some ⟨g,0,none⟩),.int .i64 x] w fun e w'=>e=.returned (.int .i64 1)/\kC Vt w' g cl x tx op ttl (.slice A n c) 0 rv p/\jR [g] w w':=by
 have c2:=h.cat;have f2:=h.fr 18;have H2:=jP (h.sat (at_+1));have HO:=jP ((jR.refl [g] w).setCell (p:=⟨g,18,none⟩) (.inl (by simp)) (.int .i64 (at_+1)));clear h;have hb:(at_+1==(n:Int))=true:=by simp[hl]
 have hle:at_<=1000:=by omega
 clear hl;go_enter Tryz.func164,Tryz.ntmps164
 go_wp2_with fail
 generalize hw1:w.setCell ⟨g,18,none⟩ (.int .i64 (at_+1))=w1 at *;clear hw1 c2 f2;have c2:=H2.1.cat;have c3:=H2.1.QU;have h1:IntKind.i64.wrap (at_+1)=at_+1:=aW _ (by omega);go_quiet (fail)
 go_wp2_with fail
 refine (uf x (show kC Vt (w1.drewN _) g cl ph tx op ttl (.slice A n c) (at_+1) rv p from H2.1)).mono ?_;rintro e w2 ⟨rfl,hm,ho⟩;have HM:=jP hm;have lG:=jP ((HO.1.drewN _).trans ho);clear hm ho;go_wp2_with fail
 go_ret
 exact⟨rfl,HM.1,lG.1⟩
theorem Gz {A:Option Addr}{c B:Nat}{x:Nm}(h:kC Vt w g cl ph tx op ttl (.slice A 1 c) 0 rv p)(hn:Rd w B 3 A 1 (lq [x])) :
  Calls Tryz.prog 163 #[.pointer (some ⟨g,0,none⟩)] w fun e w'=>e=.returned (.string x.k)/\∃ m,w'=w.drewN m:=by
 obtain⟨b,off,rfl,_,_,_,n2⟩:=IE hn;have c2:=h.cat;have c3:=h.QU;clear h hn;go_enter Tryz.func163,Tryz.ntmps163
 go_wp2_with fail
 go_quiet (fail)
 go_wp2_with fail
 go_ret
 exact⟨rfl,_,rfl⟩
theorem clone_any {A:Option Addr}{n c B:Nat}{xs:List Nm}{w:World}(hr:Rd w B 3 A n (lq xs))(hB:B<=w.heap.size)(hn:n<=1000) :
  Calls Tryz.prog 169 #[.slice A n c] w fun e w'=>∃ A' c',e=.returned (.slice A' n c')/\w'.ownsRow w.heap.size 30 3 (.slice A' n c') n (lq xs)/\Below w.heap.size w w':=by
 cases A with
 | none=>
  have hx:lq xs=[]:=by
   by_cases h0:0<(lq xs).length
   ·obtain⟨b,off,h,_⟩:=hr.2 h0;cases h
   ·exact bu (by omega)
  have hn0:n=0:=by have:=hr.1;rw[hx] at this;simp at this;omega
  subst hn0;have hnn:=fun w:World=>run_eql_slice_nil' w c;have HXS:=jP hx;clear hr hx;go_enter Tryz.func169,Tryz.ntmps169
  go_wp2_with fail
  go_ret
  exact⟨none,0,rfl,by rw[HXS.1];exact aH _ _ _ _,ai _ _⟩
 | some a=>
  have HR:=jP hr;clear hr;have hnn:∀ w:World,(binOp .eql 63 (.slice (some a) n c) (.slice none 0 0)).run Tryz.prog w=.ok (.bool false) w:=fun w=>jA (P:=Tryz.prog) w 63 30 (some a) n c 0 0 Tryz.underlying63;have HE:(w.alloc (.cells #[] 30)).ownsRow w.heap.size 30 3 (.slice (some ⟨w.heap.size,0,none⟩) 0 0) 0 (lq []):=
   ⟨by simp[lq],.inr ⟨w.heap.size,0,#[],rfl,ag _,gK w _,ag _,by decide,by simp,by simp[lq]⟩⟩
  have HE:=jP HE;have HR2:=jP (HR.1.alloc hB (.cells #[] 30));have HL:=jP ((ai w.heap.size w).alloc (ag _) (.cells #[] 30));go_enter Tryz.func169,Tryz.ntmps169
  go_wp2_with (at_builtin;refine Rf (by rfl) _ _ rfl (base:=w.heap.size) (xs:=[]) rfl HE.1 rfl HR2.1 (by omega) (by simp) ?_)
  intro A1 c1 w1 ho1 hg1 _;have ho1:w1.ownsRow w.heap.size 30 3 (.slice A1 n c1) n (lq xs):=by simpa using ho1
  have hb1:Below w.heap.size w w1:=HL.1.grown hg1 (by simp) (fun g h=>by cases h;exact ag _);have HO:=jP ho1;have HB:=jP hb1;clear ho1 hg1 hb1;go_wp2_with fail
  go_ret
  exact⟨A1,c1,rfl,by simpa using HO.1,HB.1⟩
theorem YN {A:Option Addr}{n c B:Nat}{xs:List Nm}(h:kC Vt w g cl ph tx op ttl (.slice A n c) at_ rv p)(hr:Rd w B 3 A n (lq xs))(hB:B<=w.heap.size)(hn:n<=1000) :
  Calls Tryz.prog 103 #[.pointer (some ⟨g,0,none⟩)] w fun e w'=>∃ A' c',e=.returned (.slice A' n c')/\w'.ownsRow w.heap.size 30 3 (.slice A' n c') n (lq xs)/\Below w.heap.size w w':=by
 have c1:=h.QU;have HR:=jP hr;clear h hr;go_enter Tryz.func103,Tryz.ntmps103
 go_wp2_with fail
 refine (clone_any HR.1 hB hn).mono ?_;rintro e w1 ⟨A1,k1,rfl,ho,hb⟩;have HO:=jP ho;have HL:=jP hb;clear ho hb;go_wp2_with fail
 go_ret
 exact⟨A1,k1,rfl,HO.1,HL.1⟩
end
end Go.Proofs.YtkachcflifhgiaaGreatDoor
namespace Go.Proofs.YtkachcflifhgiaaGreatDoor
open Go Go.RowKit Go.Shelf
variable {Vt:TV}
def mJ (w:World)(s:Nat)(n lim now cnt:Int)(lk st:Nat):Prop:=
 Bk w s 165 #[.int .i64 n,.int .i64 lim,.int .i64 now,.int .i64 cnt,.pointer (some ⟨lk,0,none⟩),.pointer (some ⟨st,0,none⟩)]
section
variable {w w':World} {s lk st:Nat} {n lim now cnt:Int}
theorem mJ.bk (h:mJ w s n lim now cnt lk st):Bk w s 165 #[.int .i64 n,.int .i64 lim,.int .i64 now,.int .i64 cnt,.pointer (some ⟨lk,0,none⟩),.pointer (some ⟨st,0,none⟩)]:=h
theorem mJ.lt (h:mJ w s n lim now cnt lk st):s<w.heap.size:=h.bk.lt
theorem mJ.fr (h:mJ w s n lim now cnt lk st)(i:Nat):w.frozen? ⟨s,i,none⟩=false:=h.bk.frozen i
theorem mJ.jS {S:List Nat}(h:mJ w s n lim now cnt lk st)(ho:jR S w w')(hn:s∉S):mJ w' s n lim now cnt lk st:=h.bk.jS ho hn
theorem mJ.c0 (h:mJ w s n lim now cnt lk st):w.cell? ⟨s,0,none⟩=some (.int .i64 n):=h.bk.cell 0
theorem mJ.c1 (h:mJ w s n lim now cnt lk st):w.cell? ⟨s,1,none⟩=some (.int .i64 lim):=h.bk.cell 1
theorem mJ.c2 (h:mJ w s n lim now cnt lk st):w.cell? ⟨s,2,none⟩=some (.int .i64 now):=h.bk.cell 2
theorem mJ.c3 (h:mJ w s n lim now cnt lk st):w.cell? ⟨s,3,none⟩=some (.int .i64 cnt):=h.bk.cell 3
theorem mJ.c4 (h:mJ w s n lim now cnt lk st):w.cell? ⟨s,4,none⟩=some (.pointer (some ⟨lk,0,none⟩)):=h.bk.cell 4
theorem mJ.c5 (h:mJ w s n lim now cnt lk st):w.cell? ⟨s,5,none⟩=some (.pointer (some ⟨st,0,none⟩)):=h.bk.cell 5
theorem mJ.agE (h:mJ w s n lim now cnt lk st)(x:Int):mJ (w.setCell ⟨s,3,none⟩ (.int .i64 x)) s n lim now x lk st:=h.bk.kM 3 _
end
theorem Yj (a b:Int)(h1:1<=a)(h2:a<=64)(h3:1<=b)(h4:b<=64)(w:World):Calls Tryz.prog 42 #[.agg #[.int .i64 a,.int .i64 b]] w fun e w'=>∃ s lk ls lo st ss sr,e=.returned (.tuple #[.pointer (some ⟨s,0,none⟩),.int .i64 0]) /\
  mJ w' s a b 0 0 lk st/\nI w' lk ls lo 2048 (mM 2048) (z_ 2048) 0/\lW w' st ss sr 16 (mM 16) (yA 16) 0/\ls≠ss/\(∀ i∈[s,lk,ls,lo,st,ss,sr],w.heap.size<=i)/\Below w.heap.size w w':=by
 have HX:=jP (Bk.new w 38 #[.int .i64 a,.int .i64 b]);have HB:=jP ((ai w.heap.size w).alloc (ag _) (.cells #[.int .i64 a,.int .i64 b] 38));go_enter Tryz.func42,Tryz.ntmps42
 have x0:=HX.1.cell 0;have x1:=HX.1.cell 1;go_wp2_with fail
 clear x0 x1;refine (YS a b h1 h2 h3 h4 _).mono ?_;rintro e w1 ⟨rfl,hb⟩;have qK:=jP (HX.1.below hb HX.1.lt);have HB1:=jP (HB.1.trans (hb.mono HB.1.size));clear hb HX HB;go_wp2_with fail
 refine (YW _).mono ?_;rintro e w2 ⟨lk,ls,lo,rfl,hk,g1,g2,g3,hb⟩;have lV:=jP (qK.1.below hb qK.1.lt);have HB2:=jP (HB1.1.trans (hb.mono HB1.1.size));have hz1:=HB1.1.size;have HK:=jP hk;have hls:=hk.s.lt;clear hb qK HB1 hk;go_wp2_with fail
 refine (aeH _).mono ?_;rintro e w3 ⟨st,ss,sr,rfl,hs,g4,g5,g6,hb⟩;have lM:=jP (lV.1.below hb lV.1.lt);have HB3:=jP (HB2.1.trans (hb.mono HB2.1.size));have hz2:=HB2.1.size;have zh:=jP (HK.1.below hb (ag _));have HS:=jP hs;clear hb lV HB2 HK hs;have x0:=lM.1.cell 0;have x1:=lM.1.cell 1;go_wp2_with fail
 clear x0 x1;go_ret2
 have hz3:=HB3.1.size;refine⟨_,lk,ls,lo,st,ss,sr,rfl,Bk.new w3 _ _,zh.1.below ((ai _ _).alloc (ag _) _) (ag _),HS.1.below ((ai _ _).alloc (ag _) _) (ag _),by omega,?_,HB3.1.alloc HB3.1.size _⟩;intro i hi;simp at hi;omega
section
variable {g:Nat} {cl ph:Int} {tx:ByteArray} {op ttl:Int} {nv:Value} {at_:Int} {rv:Value} {p:Rs} {w:World}
theorem wpList_store_row {ops:Array Oper}{rest:List Oper}{o:Oper}{a:Act}{w:World}{Q:Exit->Act->World->Prop}(hgd:o.guard=none)(ty:TypeId)(x y:Operand)(ho:o.op=.store ty x y)
  (g:Nat) (cells:Array Value) (hx:a.eval x=.pointer (some ⟨g,0,none⟩)) (hy:a.eval y=.agg cells)
  (t:TypeId) (old:Array Value) (hg:w.heap[g]?=some (.cells old t (0,0))) (hi:(Tryz.prog.info? ty).map (·.size)=some cells.size)
  (hold:old.size=cells.size) (h1:cells.all (·.oneCell')=true)
  (h:wpList Tryz.prog ops Q rest (a.put o.dst undef) (w.setRow g cells)):wpList Tryz.prog ops Q (o::rest) a w:=
 wpList_plain hgd fun _ hK=>wp_store_row ty x y ho g cells hx hy t old hg hi hold h1 (hK _ _ h)
theorem DN {w:World}{g:Nat}{T:TypeId}{cs old:Array Value}(h:Bk w g T old):jR [g] w (w.setRow g cs):=by
 refine⟨rfl,rfl,rfl,by simp[World.setRow],?_⟩;intro i hi hn;have:i≠g:=by simpa using hn
 simp[World.setRow,Array.getElem?_modify,this.symm]
theorem WL (t:ByteArray)(h:kC Vt w g cl 0 tx op ttl nv at_ rv p) :
  Calls Tryz.prog 160 #[.pointer (some ⟨g,0,none⟩),.string t] w fun e w'=>e=.returned (.int .i64 0)/\kC Vt w' g cl 1 t 0 0 (.slice none 0 0) 0 (.slice none 0 0) Rs.zero/\jR [g] w w':=by
 obtain⟨x0,x1,x2,x3,x4,x5,x6,x7,x8,x9,x10,x11⟩:=h.t;have y1:=h.FB;have y2:=h.ccl;have hc1:(mA Vt cl 1 t 0 0 (.slice none 0 0) 0 (.slice none 0 0) Rs.zero).all (·.oneCell')=true:=by simp[mA,Value.oneCell']
 have HC:=jP hc1;have HH:=jP h.bk;clear h hc1;go_enter Tryz.func160,Tryz.ntmps160
 go_wp2_with fail
 go_still_tail 12,(by kernel_rfl)
 change wpList _ _ _ _ _ w.drew;refine wpList_store_row rfl 156 (.tmp 21) (.tmp 20) rfl g (mA Vt cl 1 t 0 0 (.slice none 0 0) 0 (.slice none 0 0) Rs.zero) rfl rfl 156 _ HH.1 (by kernel_rfl) rfl HC.1 ?_;generalize hw1:w.drew.setRow g (mA Vt cl 1 t 0 0 (.slice none 0 0) 0 (.slice none 0 0) Rs.zero)=w1;have HM:=jP (show Bk w1 g _ _ from hw1▸EM (w:=w.drew) (cs:=mA Vt cl 1 t 0 0 (.slice none 0 0) 0 (.slice none 0 0) Rs.zero) HH.1);have HS:=jP (show jR [g] w w1 from hw1▸((jR.refl [g] w).drew.trans (DN (w:=w.drew) (cs:=mA Vt cl 1 t 0 0 (.slice none 0 0) 0 (.slice none 0 0) Rs.zero) HH.1)));go_wp2_with fail
 go_ret
 exact⟨rfl,HM.1,HS.1⟩
end
end Go.Proofs.YtkachcflifhgiaaGreatDoor
