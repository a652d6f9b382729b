/-           -/
import Derived.Test.YtkachcflifhgiaaGreatDoorM26
import Derived.Test.YtkachcflifhgiaaGreatDoorMailZ
import Derived.Deep.RegionHeld3
import Derived.StillTailTactics
import Derived.Test.YtkachcflifhgiaaGreatDoorM25
set_option linter.unusedVariables false
set_option maxRecDepth 100000
set_option maxHeartbeats 16000000
namespace Go.Proofs.YtkachcflifhgiaaGreatDoor
open Go Go.RowKit Go.Shelf
variable {Vt:TV}
theorem Bk.tq {w:World}{g b ch cap:Nat}{t:TypeId}{cs:Array Value}{l:List ByteArray}(h:Bk w g t cs)(hb:Box w b ch cap l):g≠ch:=by
 rintro rfl;obtain⟨_,s,r,h2⟩:=hb;have:=h.symm.trans h2;injection this with e
 cases e
theorem Bk.Gx {w:World}{g b ch cap:Nat}{t:TypeId}{cs:Array Value}{l:List ByteArray}(h:Bk w g t cs)(hb:Box w b ch cap l)(ht:t≠168):g≠b:=Bk.ne h hb.1 ht
theorem oD {w w':World}{base:Nat}{e:TypeId}{size n:Nat}{v:Value}{xs:List Value}{S:List Nat}(h:w.ownsRow base e size v n xs)(ho:jR S w w')(hS:∀ g cs,Bk w g e cs->g∉S):w'.ownsRow base e size v n xs:=by
 refine⟨h.1,?_⟩;rcases h.2 with h2 | ⟨g,cap,cur,h1,h2,h3,h4⟩
 ·exact .inl h2
 ·exact .inr ⟨g,cap,cur,h1,h2,ho.heap h3 (hS g cur h3),h4⟩
def jT:Option Addr->List Nat
 | some a=>[a.block]
 | none=>[]
theorem kV {w:World}{base:Nat}{e:TypeId}{size n c:Nat}{A:Option Addr}{xs:List Value}(h:w.ownsRow base e size (.slice A n c) n xs):∀ g∈jT A,∃ cs,Bk w g e cs:=by
 intro g hg;rcases h.2 with ⟨h1,_⟩ | ⟨g',cap,cur,h1,h2,h3,h4⟩
 ·injection h1 with e1 _ _;subst e1;simp[jT] at hg
 ·injection h1 with e1 _ _;subst e1;simp[jT] at hg;subst hg;exact⟨cur,h3⟩
theorem yL {w:World}{base:Nat}{e t:TypeId}{size n c d:Nat}{A:Option Addr}{xs:List Value}{cs:Array Value}(h:w.ownsRow base e size (.slice A n c) n xs)(hd:Bk w d t cs)(ht:t≠e):d∉jT A:=by
 intro hm;obtain⟨cs',hb⟩:=kV h d hm;exact Bk.ne hd hb ht rfl
theorem Box.jS {w w':World}{b ch cap:Nat}{l:List ByteArray}{S:List Nat}(h:Box w b ch cap l)(ho:jR S w w')(h1:b∉S)(h2:ch∉S):Box w' b ch cap l:=by
 obtain⟨a,s,r,c⟩:=h;exact⟨ho.heap a h1,s,r,ho.heap c h2⟩
theorem BM {w:World}{base:Nat}{e:TypeId}{size n c b ch cap:Nat}{A:Option Addr}{xs:List Value}{l:List ByteArray}(h:w.ownsRow base e size (.slice A n c) n xs)(hb:Box w b ch cap l)(ht:e≠168):b∉jT A/\ch∉jT A:=
 ⟨fun hm=>by obtain⟨cs',h1⟩:=kV h b hm;exact h1.Gx hb ht rfl,fun hm=>by obtain⟨cs',h1⟩:=kV h ch hm;exact h1.tq hb rfl⟩
theorem aai {w:World}{d s cw n c c0 b ch cap m i base k:Nat}{steps o cl:Int}{ov:Value}{t tx:ByteArray}{op ttl at_:Int}{nv rv:Value}{p:Rs}{xs:List Opn}(tick:Int)
  (h:nP w d s (.slice (some ⟨cw,0,none⟩) n c) steps ov) (hi:i<n) (hn:n<=64) (hcell:w.cell? ⟨cw,i,none⟩=some (.pointer (some ⟨c0,0,none⟩))) (hc:rJ w c0 b m o) (hb:Box w b ch cap [t])
  (hm:kC Vt w m cl 0 tx op ttl nv at_ rv p) (A:Option Addr) (kc:Nat) (hov:ov=.slice A k kc) (hk:k<=100) (hown:w.ownsRow base 65 23 ov k (opC xs)) (hbase:base<=w.heap.size) :
  Calls Tryz.prog 100 #[.pointer (some ⟨d,0,none⟩),.int .i64 (i:Int),.int .i64 tick] w fun e w'=>∃ A' c',e=.returned (.bool true) /\
   nP w' d s (.slice (some ⟨cw,0,none⟩) n c) steps (.slice A' (k+1) c')/\rJ w' c0 b m (k:Int)/\Box w' b ch cap []/\kC Vt w' m cl 1 t 0 0 (.slice none 0 0) 0 (.slice none 0 0) Rs.zero /\
   w'.ownsRow base 65 23 (.slice A' (k+1) c') (k+1) (opC (xs++[⟨(i:Int),0,0,none,0,0,Rs.zero,tick,-1,-1,Rs.zero⟩]))/\jR (ch::m::c0::d::jT A) w w':=by
 subst hov;have y1:=h.c1;have y3:=h.c3;have z0:=hc.c0;have z1:=hc.c1;have HD:=jP h;have HC:=jP hc;have qy:=jP hb;have HM:=jP hm;have HO:=jP hown;clear h hc hb hm hown;go_enter Tryz.func100,Tryz.ntmps100
 go_wp2_with fail
 have hcd:c0≠d:=Bk.ne HC.1.bk HD.1.bk (by decide);have hmd:m≠d:=Bk.ne HM.1.bk HD.1.bk (by decide);have hmc:m≠c0:=Bk.ne HM.1.bk HC.1.bk (by decide);have Lp:d≠ch:=HD.1.bk.tq qy.1;have Xd:c0≠ch:=HC.1.bk.tq qy.1;have ach:m≠ch:=HM.1.bk.tq qy.1;refine (aaZ b ch cap t [] w qy.1).mono ?_;rintro e w1 ⟨rfl,hb1,hg1⟩;have ho1:jR [ch] w w1:=(jR.refl [ch] w).grown hg1 (fun g e=>by cases e;exact .inl (by simp));have XG:=jP hb1;have HD1:=jP (HD.1.jS ho1 (by simpa using Lp));have BG:=jP (HC.1.jS ho1 (by simpa using Xd));have zM:=jP (HM.1.jS ho1 (by simpa using ach));have nT:=jP (oD HO.1 ho1 (by intro g cs hg;simpa using hg.tq qy.1));have HW1:=jP ho1;clear hb1 hg1 ho1 y1 y3 z0 z1 hcell;have z0:=BG.1.c0;have z1:=BG.1.c1;go_wp2_with fail
 refine (WL t zM.1).mono ?_;rintro e w2 ⟨rfl,hm2,ho2⟩;have oN:=jP hm2;have HD2:=jP (HD1.1.jS ho2 (by simpa using hmd.symm));have HC2:=jP (BG.1.jS ho2 (by simpa using hmc.symm));have lG:=jP (oD nT.1 ho2 (by intro g cs hg;simpa using Bk.ne hg zM.1.bk (by decide)));have HW2:=jP ho2;clear hm2 ho2 z0 z1;have y3:=HD2.1.c3;have z2:=HC2.1.c2;have zf:=HC2.1.fr 2;go_upto_region 8 with (fail)
 have ho3:jR [c0] w2 (w2.setCell ⟨c0,2,none⟩ (.int .i64 (k:Int))):=(jR.refl [c0] w2).setCell (p:=⟨c0,2,none⟩) (.inl (by simp)) _;have Ey:=jP (HC2.1.so (k:Int));have HD3:=jP (HD2.1.jS ho3 (by simpa using hcd.symm));have y_:=jP (oN.1.jS ho3 (by simpa using hmc));have mX:=jP (oD lG.1 ho3 (by intro g cs hg;simpa using Bk.ne hg HC2.1.bk (by decide)));have HW3:=jP ho3;generalize hw3:w2.setCell ⟨c0,2,none⟩ (.int .i64 (k:Int))=w3 at *;clear hw3 y3 z2 zf ho3;have y3:=HD3.1.c3;have yf:=HD3.1.fr 3;have hsz:base<=w3.heap.size:=aK hbase (aK HW1.1.size (aK HW2.1.size HW3.1.size));have lC:=jP (mX.1.alloc (.cells (Opn.cells ⟨(i:Int),0,0,none,0,0,Rs.zero,tick,-1,-1,Rs.zero⟩).toArray 65));go_wp2_with (at_builtin;refine Vj (by rfl) _ _ rfl (base:=base) (xs:=xs) rfl lC.1 rfl (Jr (z:=w3.heap.size) rfl ⟨(i:Int),0,0,none,0,0,Rs.zero,tick,-1,-1,Rs.zero⟩) (by omega) (by simp;omega) ?_)
 intro A4 c4 w4 kQ hg4 _;have hal:jR (jT A) w3 w4:=((jR.refl (jT A) w3).alloc _).grown hg4 (fun g e=>by cases A with
  | none=>cases e
  | some a=>simp[Value.ownBlock] at e;exact .inl (by simp[jT,e]))
 have Sm:=jP ((XG.1.jS HW2.1 (by simpa using (zM.1.bk.Gx XG.1 (by decide)).symm) (by simpa using ach.symm)).jS HW3.1 (by simpa using (HC2.1.bk.Gx (XG.1.jS HW2.1 (by simpa using (zM.1.bk.Gx XG.1 (by decide)).symm) (by simpa using ach.symm)) (by decide)).symm) (by simpa using Xd.symm));have HD4:=jP (HD3.1.jS hal (yL mX.1 HD3.1.bk (by decide)));have zO:=jP (Ey.1.jS hal (yL mX.1 Ey.1.bk (by decide)));have BB:=jP (y_.1.jS hal (yL mX.1 y_.1.bk (by decide)));have I9:=jP (Sm.1.jS hal (BM mX.1 Sm.1 (by decide)).1 (BM mX.1 Sm.1 (by decide)).2);have lD:=jP kQ;have sK:=jP hal;clear kQ hg4 hal y3 yf lC;have y3:=HD4.1.c3;have yf:=HD4.1.fr 3;go_wp2_with fail
 go_ret
 have hod:jR [d] w4 (w4.setCell ⟨d,3,none⟩ (.slice A4 (k+1) c4)):=(jR.refl [d] w4).setCell (p:=⟨d,3,none⟩) (.inl (by simp)) _;refine⟨A4,c4,rfl,HD4.1.sov _,zO.1.jS hod (by simpa using hcd),I9.1.jS hod (by simpa using (HD4.1.bk.Gx I9.1 (by decide)).symm) (by simpa using Lp.symm),BB.1.jS hod (by simpa using hmd),oD lD.1 hod (by intro g cs hg;simpa using Bk.ne hg HD4.1.bk (by decide)),?_⟩;exact ((((HW1.1.more (by simp)).trans (HW2.1.more (by simp))).trans (HW3.1.more (by simp))).trans (sK.1.more (by simp +contextual))).trans (hod.more (by simp))
end Go.Proofs.YtkachcflifhgiaaGreatDoor
namespace Go.Proofs.YtkachcflifhgiaaGreatDoor
open Go Go.RowKit Go.Shelf
variable {Vt:TV}
theorem Wy {w:World}{d s cw n c c0 b ch cap m i base k:Nat}{steps o cl:Int}{ov:Value}{t tx:ByteArray}{op ttl at_:Int}{nv rv:Value}{p:Rs}{xs:List Opn}(tick:Int)
  (h:nP w d s (.slice (some ⟨cw,0,none⟩) n c) steps ov) (hi:i<n) (hn:n<=64) (hcell:w.cell? ⟨cw,i,none⟩=some (.pointer (some ⟨c0,0,none⟩))) (hc:rJ w c0 b m o) (hb:Box w b ch cap [t])
  (hm:kC Vt w m cl 0 tx op ttl nv at_ rv p) (A:Option Addr) (kc:Nat) (hov:ov=.slice A k kc) (hk:k<=100) (hown:w.ownsRow base 65 23 ov k (opC xs)) (hbase:base<=w.heap.size) :
  Calls Tryz.prog 48 #[.pointer (some ⟨d,0,none⟩),.int .i64 (i:Int),.int .i64 tick] w fun e w'=>∃ A' c',e=.returned (.bool true) /\
   nP w' d s (.slice (some ⟨cw,0,none⟩) n c) steps (.slice A' (k+1) c')/\rJ w' c0 b m (k:Int)/\Box w' b ch cap []/\kC Vt w' m cl 1 t 0 0 (.slice none 0 0) 0 (.slice none 0 0) Rs.zero /\
   w'.ownsRow base 65 23 (.slice A' (k+1) c') (k+1) (opC (xs++[⟨(i:Int),0,0,none,0,0,Rs.zero,tick,-1,-1,Rs.zero⟩]))/\jR (ch::m::c0::d::jT A) w w':=by
 have y1:=h.c1;have z1:=hc.c1;have HB:=jP (aai tick h hi hn hcell hc hb hm A kc hov hk hown hbase);have HM:=jP hm;clear h hc hb hm hown;go_enter Tryz.func48,Tryz.ntmps48
 go_wp2_with fail
 refine (yN m cl 0 tx op ttl nv at_ rv p w HM.1).mono ?_;rintro e w1 ⟨rfl,rfl⟩;go_wp2_with fail
 refine HB.1.mono ?_;rintro e w2 ⟨A',c',rfl,h1,h2,h3,h4,h5,h6⟩;have H1:=jP h1;have H2:=jP h2;have H3:=jP h3;have H4:=jP h4;have H5:=jP h5;have H6:=jP h6;clear h1 h2 h3 h4 h5 h6;go_wp2_with fail
 go_ret
 exact⟨A',c',rfl,H1.1,H2.1,H3.1,H4.1,H5.1,H6.1⟩
end Go.Proofs.YtkachcflifhgiaaGreatDoor
namespace Go.Proofs.YtkachcflifhgiaaGreatDoor
open Go Go.RowKit Go.Shelf
variable {Vt:TV}
theorem afW {w:World}{d s cw n c c0 b ch m i:Nat}{steps o:Int}{ov:Value}(t:ByteArray)(h:nP w d s (.slice (some ⟨cw,0,none⟩) n c) steps ov)(hi:i<n)(hn:n<=64)
  (hcell:w.cell? ⟨cw,i,none⟩=some (.pointer (some ⟨c0,0,none⟩))) (hc:rJ w c0 b m o) (hb:Box w b ch 8 []) (ht:t.size<=4096) (hst:0<=steps/\steps<=1000000) (alS:cw≠d) (hcw:cw<w.heap.size) (Xd:cw≠ch) :
  Calls Tryz.prog 15 #[.pointer (some ⟨d,0,none⟩),.agg #[.int .i64 1,.int .i64 (i:Int),.int .i64 0,.string t]] w fun e w'=>e=.returned (.int .i64 0)/\nP w' d s (.slice (some ⟨cw,0,none⟩) n c) (steps+1) ov/\Box w' b ch 8 [t]/\jR [d,ch] w w':=by
 have hdc:d≠c0:=Bk.ne h.bk hc.bk (by decide);have hdb:d≠b:=h.bk.Gx hb (by decide);have Lp:d≠ch:=h.bk.tq hb;have ajL:c0≠ch:=hc.bk.tq hb;have HB:=jP ((ai w.heap.size w).alloc (ag _) (.cells #[.int .i64 1,.int .i64 (i:Int),.int .i64 0,.string t] 53));have HX:=jP (Bk.new w 53 #[.int .i64 1,.int .i64 (i:Int),.int .i64 0,.string t]);have HD:=jP (show nP _ d s (.slice (some ⟨cw,0,none⟩) n c) steps ov from Bk.below h HB.1 h.lt);have HC:=jP (show rJ _ c0 b m o from Bk.below hc HB.1 hc.lt);have qy:=jP (hb.jS (jR.below (S:=[]) HB.1 (ag _)) (by simp) (by simp));have HCW:=jP ((HB.1.cell (p:=⟨cw,i,none⟩) hcw).trans hcell);have hdl:=h.lt;have hcl:=hc.lt;have hbl:=hb.lt;clear h hc hb hcell;have hwr:IntKind.i64.wrap (steps+1)=steps+1:=aW _ (by omega);go_enter Tryz.func15,Tryz.ntmps15
 go_upto_region 1 with (fail)
 generalize hw1:w.alloc (.cells #[.int .i64 1,.int .i64 (i:Int),.int .i64 0,.string t] 53)=w1 at *;have x0:=HX.1.cell 0;have x1:=HX.1.cell 1;have x2:=HX.1.cell 2;have x3:=HX.1.cell 3;have y0:=HD.1.c0;have y2:=HD.1.c2;have f2:=HD.1.fr 2;have hx:w.heap.size≠d:=Nat.ne_of_gt hdl;go_upto_region 6 with (fail)
 have ho2:jR [d] w1 (w1.setCell ⟨d,2,none⟩ (.int .i64 (steps+1))):=(jR.refl [d] w1).setCell (p:=⟨d,2,none⟩) (.inl (by simp)) _;have HD2:=jP (HD.1.adC (steps+1));have HC2:=jP (HC.1.jS ho2 (by simpa using hdc.symm));have wF:=jP (qy.1.jS ho2 (by simpa using hdb.symm) (by simpa using Lp.symm));have lV:=jP (Bk.far HX.1 (p:=⟨d,2,none⟩) hx (.int .i64 (steps+1)));have amq:=jP ((ho2.cell (p:=⟨cw,i,none⟩) (aG hcw HB.1.size) (by simpa using alS)).trans HCW.1);have lG:=jP ((jR.below (S:=[d,ch]) HB.1 (ag _)).trans (ho2.more (T:=[d,ch]) (by simp)));generalize hw2:w1.setCell ⟨d,2,none⟩ (.int .i64 (steps+1))=w2 at *;clear x0 x1 x2 x3 y0 y2 f2 hw1 hw2 ho2 HD HC qy HX HCW;have x1:=lV.1.cell 1;have x3:=lV.1.cell 3;have y1:=HD2.1.c1;have z0:=HC2.1.c0;have q0:=amq.1;go_wp2_with fail
 refine (afA (i:Int) HD2.1 (by omega) (by omega) (by omega)).mono ?_;rintro e w3 ⟨rfl,rfl⟩;go_wp2_with fail
 have hlen:¬(4096:Int)<(t.size:Int):=by omega
 have hch:ch<w.heap.size:=hbl.2.1;go_region_held3 (fun w'=>w'.cell? ⟨w.heap.size,1,none⟩=some (.int .i64 (i:Int))/\w'.cell? ⟨w.heap.size,3,none⟩=some (.string t)/\w'.cell? ⟨d,1,none⟩=some (.slice (some ⟨cw,0,none⟩) n c)/\w'.cell? ⟨cw,i,none⟩=some (.pointer (some ⟨c0,0,none⟩))/\w'.cell? ⟨c0,0,none⟩=some (.pointer (some ⟨b,0,none⟩)))
  (first
   | with_reducible exact mg.1
   | exact⟨x1,x3,y1,q0,z0⟩
   | go_keep
   | fail)
  (first
   | (go_at_call 47;refine (aeZ b ch 8 [] t w3.drew (by exact wF.1) (by decide)).mono ?_;rintro e w4 ⟨rfl,hb4,hg4⟩;have lC:=jP (show jR [ch] w3.drew w4 from (jR.refl [ch] w3.drew).grown hg4 (fun g e=>by cases e;exact .inl (by simp)));have mg:=jP (show w4.cell? ⟨w.heap.size,1,none⟩=some (.int .i64 (i:Int))/\w4.cell? ⟨w.heap.size,3,none⟩=some (.string t)/\w4.cell? ⟨d,1,none⟩=some (.slice (some ⟨cw,0,none⟩) n c)/\w4.cell? ⟨cw,i,none⟩=some (.pointer (some ⟨c0,0,none⟩))/\w4.cell? ⟨c0,0,none⟩=some (.pointer (some ⟨b,0,none⟩)) from ⟨(lC.1.cell (p:=⟨w.heap.size,1,none⟩) lV.1.lt (by simp;omega)).trans x1,(lC.1.cell (p:=⟨w.heap.size,3,none⟩) lV.1.lt (by simp;omega)).trans x3,(lC.1.cell (p:=⟨d,1,none⟩) HD2.1.lt (by simpa using Lp)).trans y1,(lC.1.cell (p:=⟨cw,i,none⟩) (aG hcw lG.1.size) (by simpa using Xd)).trans q0,(lC.1.cell (p:=⟨c0,0,none⟩) HC2.1.lt (by simpa using ajL)).trans z0⟩)))
 have HD4:=jP (nP.jS (show nP w3.drew d s (.slice (some ⟨cw,0,none⟩) n c) (steps+1) ov from HD2.1) lC.1 (by simpa using Lp));have sK:=jP ((lG.1.drew).trans (lC.1.more (T:=[d,ch]) (by simp)));have HB4:=jP hb4;clear x1 x3 y1 q0 z0 hb4 hg4 mg hlen;go_wp2_with fail
 go_ret
 exact⟨rfl,HD4.1,HB4.1,sK.1⟩
end Go.Proofs.YtkachcflifhgiaaGreatDoor
namespace Go.Proofs.YtkachcflifhgiaaGreatDoor
open Go Go.RowKit Go.Shelf
variable {Vt:TV}
theorem YI (l:List Opn):∀ (i:Nat) (o:Opn),l[i]?=some o->∀ j,j<23->(opC l)[i*23+j]?=o.cells[j]?:=by
 induction l with
 | nil=>intro i o h;simp at h
 | cons a r ih=>
  intro i o h j hj;have e:opC (a::r)=a.cells++opC r:=by simp[opC]
  rw[e];cases i with
  | zero=>
   simp at h;subst h;rw[bz (by rw[Opn.qp];omega)];simp
  | succ i=>
   simp at h;rw[aT (by rw[Opn.qp];omega),Opn.qp,show (i+1)*23+j-23=i*23+j by omega];exact ih i o h j hj
theorem BR {w:World}{base k c:Nat}{A:Option Addr}{xs:List Opn}{o:Opn}(h:w.ownsRow base 65 23 (.slice A (k+1) c) (k+1) (opC (xs++[o])))(hx:xs.length=k) :
  ∃ g,A=some ⟨g,0,none⟩/\base<=g/\∀ j v,o.cells[j]?=some v->w.cell? ⟨g,k*23+j,none⟩=some v:=by
 rcases h.2 with ⟨_,h0⟩ | ⟨g,cap,cur,h1,h2,h3,h4,h5,h6,h7⟩
 ·omega
 ·injection h1 with e1 _ _
  refine⟨g,e1,h2,?_⟩;intro j v hv;have hj:j<23:=by
   have:=(ak.1 hv).1;rwa [Opn.qp] at this
  have h8:=YI (xs++[o]) k o (by simp[<-hx]) j hj;rw[hv,<-h7,List.getElem?_take] at h8;split at h8
  ·have:cur[k*23+j]?=some v:=by simpa using h8
   rw[jv w g _ cur _ _ h3];exact this
  ·cases h8
end Go.Proofs.YtkachcflifhgiaaGreatDoor
namespace Go.Proofs.YtkachcflifhgiaaGreatDoor
open Go Go.RowKit Go.Shelf
variable {Vt:TV}
theorem abw {w:World}{base size n c g:Nat}{e:TypeId}{xs:List Value}(h:w.ownsRow base e size (.slice (some ⟨g,0,none⟩) n c) n xs)(i:Nat)(u:Value) :
  (w.setCell ⟨g,i,none⟩ u).ownsRow base e size (.slice (some ⟨g,0,none⟩) n c) n (xs.set i u):=by
 rcases h.2 with ⟨h1,_⟩ | ⟨g',cap,cur,h1,h2,h3,h4,h5,h6,h7⟩
 ·cases h1
 ·injection h1 with e1 _ e3
  injection e1 with e1;injection e1 with e1 _ _
  subst e1;refine⟨by simp[h.1],.inr ⟨g,cap,cur.setIfInBounds i u,by rw[e3],h2,Bk.kM h3 i u,h4,h5,by simp[h6],?_⟩⟩;rw[<-h7,Array.toList_setIfInBounds,List.take_set]
theorem xY {w:World}{base base' size n:Nat}{e:TypeId}{v:Value}{xs:List Value}(h:w.ownsRow base e size v n xs)(hb:base'<=base):w.ownsRow base' e size v n xs:=
 ⟨h.1,h.2.imp id fun ⟨g,cap,cur,a,b,c⟩=>⟨g,cap,cur,a,aK hb b,c⟩⟩
theorem qj {w:World}{base size n c g:Nat}{e:TypeId}{xs:List Value}(h:w.ownsRow base e size (.slice (some ⟨g,0,none⟩) n c) n xs){i:Nat}{v:Value}(hv:xs[i]?=some v):w.cell? ⟨g,i,none⟩=some v/\w.frozen? ⟨g,i,none⟩=false:=by
 rcases h.2 with ⟨h1,_⟩ | ⟨g',cap,cur,h1,h2,h3,h4,h5,h6,h7⟩
 ·cases h1
 ·injection h1 with e1 _ e3
  injection e1 with e1;injection e1 with e1 _ _
  subst e1;refine⟨?_,Bk.frozen h3 i⟩;rw[Bk.cell h3];rw[<-h7,List.getElem?_take] at hv;split at hv
  ·simpa using hv
  ·cases hv
theorem afd (xs:List Opn)(o o':Opn)(j:Nat)(v:Value)(ho:o'.cells=o.cells.set j v):(opC (xs++[o])).set (xs.length*23+j) v=opC (xs++[o']):=by
 have e:∀ y:Opn,opC (xs++[y])=opC xs++y.cells:=by intro y;simp[opC]
 rw[e,e,List.set_append_right _ _ (by rw[vP];omega),vP,ho,show xs.length*23+j-xs.length*23=j by omega]
theorem aby (xs:List Opn)(o:Opn)(j:Nat):(opC (xs++[o]))[xs.length*23+j]?=o.cells[j]?:=by
 have e:opC (xs++[o])=opC xs++o.cells:=by simp[opC]
 rw[e,aT (by rw[vP];omega),vP,show xs.length*23+j-xs.length*23=j by omega]
theorem rC {w:World}{base n c g:Nat}{xs:List Opn}{o:Opn}(h:w.ownsRow base 65 23 (.slice (some ⟨g,0,none⟩) n c) n (opC (xs++[o])))(o':Opn)(j:Nat)(v:Value)(ho:o'.cells=o.cells.set j v){k:Nat}(hx:xs.length=k) :
  (w.setCell ⟨g,k*23+j,none⟩ v).ownsRow base 65 23 (.slice (some ⟨g,0,none⟩) n c) n (opC (xs++[o'])):=by
 have h1:=abw h (k*23+j) v;subst hx;rwa [afd xs o o' j v ho] at h1
theorem lJ {w:World}{base n c g:Nat}{xs:List Opn}{o:Opn}(h:w.ownsRow base 65 23 (.slice (some ⟨g,0,none⟩) n c) n (opC (xs++[o]))){k:Nat}(hx:xs.length=k)(j:Nat){v:Value}(hv:o.cells[j]?=some v) :
  w.cell? ⟨g,k*23+j,none⟩=some v/\w.frozen? ⟨g,k*23+j,none⟩=false:=by
 subst hx;exact qj h (by rw[aby];exact hv)
theorem abh {w:World}{base n c g:Nat}{xs:List Opn}{o:Opn}(h:w.ownsRow base 65 23 (.slice (some ⟨g,0,none⟩) n c) n (opC (xs++[o])))(p:Rs){k:Nat}(hx:xs.length=k) :
  ((((((((w.setCell ⟨g,k*23+15,none⟩ (.int .i64 p.err)).setCell ⟨g,k*23+15+1,none⟩ (.int .i64 p.at_)).setCell ⟨g,k*23+15+2,none⟩ (.string p.nm)).setCell ⟨g,k*23+15+3,none⟩ (.int .i64 p.rc.st)).setCell ⟨g,k*23+15+4,none⟩ (.int .i64 p.rc.ow)).setCell ⟨g,k*23+15+5,none⟩ (.string p.rc.nm)).setCell ⟨g,k*23+15+6,none⟩ (.int .i64 p.rc.dl)).setCell ⟨g,k*23+15+7,none⟩ (.int .i64 p.tk)).ownsRow base 65 23 (.slice (some ⟨g,0,none⟩) n c) n (opC (xs++[{ o with kP:=p }])):=by
 have h1:=rC h { o with kP:={ o.kP with err:=p.err } } 15 (.int .i64 p.err) rfl hx;have h2:=rC h1 { o with kP:={ o.kP with err:=p.err,at_:=p.at_ } } 16 (.int .i64 p.at_) rfl hx;have h3:=rC h2 { o with kP:={ o.kP with err:=p.err,at_:=p.at_,nm:=p.nm } } 17 (.string p.nm) rfl hx;have h4:=rC h3 { o with kP:={ o.kP with err:=p.err,at_:=p.at_,nm:=p.nm,rc:={ o.kP.rc with st:=p.rc.st } } } 18 (.int .i64 p.rc.st) rfl hx;have h5:=rC h4 { o with kP:={ o.kP with err:=p.err,at_:=p.at_,nm:=p.nm,rc:={ o.kP.rc with st:=p.rc.st,ow:=p.rc.ow } } } 19 (.int .i64 p.rc.ow) rfl hx;have h6:=rC h5 { o with kP:={ o.kP with err:=p.err,at_:=p.at_,nm:=p.nm,rc:={ o.kP.rc with st:=p.rc.st,ow:=p.rc.ow,nm:=p.rc.nm } } } 20 (.string p.rc.nm) rfl hx;have h7:=rC h6 { o with kP:={ o.kP with err:=p.err,at_:=p.at_,nm:=p.nm,rc:=p.rc } } 21 (.int .i64 p.rc.dl) rfl hx;exact rC h7 { o with kP:=p } 22 (.int .i64 p.tk) rfl hx
end Go.Proofs.YtkachcflifhgiaaGreatDoor
namespace Go.Proofs.YtkachcflifhgiaaGreatDoor
open Go Go.RowKit Go.Shelf
variable {Vt:TV}
theorem Uw {w:World}{d s cw n c c0 b m i base k kc og nn:Nat}{steps cl ph vX:Int}{t tx:ByteArray}{op ttl op' rO:Int}{nv rv:Value}{p p':Rs}{xs:List Opn}{o:Opn}{x:Nm}{at_:Int}{PS:World->Prop}(tick r:Int)
  (h:nP w d s (.slice (some ⟨cw,0,none⟩) n c) steps (.slice (some ⟨og,0,none⟩) (k+1) kc)) (hi:i<n) (hn:n<=64) (hcell:w.cell? ⟨cw,i,none⟩=some (.pointer (some ⟨c0,0,none⟩))) (hc:rJ w c0 b m (k:Int))
  (hm:kC Vt w m cl ph tx op ttl nv at_ rv p) (wY:(ph==0)=false) (hk:k<=100) (hx:xs.length=k) (hr:r=1\/r=3\/r=4) (hop:(op'==0)=false)
  (hS:Calls Tryz.prog 101 #[.pointer (some ⟨m,0,none⟩),.pointer (some ⟨s,0,none⟩)] w.drew fun e w'=>e=.returned (.int .i64 r)/\PS w')
  (hP:∀ w2,PS w2->nP w2 d s (.slice (some ⟨cw,0,none⟩) n c) steps (.slice (some ⟨og,0,none⟩) (k+1) kc)/\rJ w2 c0 b m (k:Int)/\(∃ q cq rv',kC Vt w2 m cl vX tx op' rO (.slice (some ⟨q,0,none⟩) 1 cq) 0 rv' p'/\w2.ownsRow base 30 3 (.slice (some ⟨q,0,none⟩) 1 cq) 1 (lq [x])) /\
   w2.ownsRow base 65 23 (.slice (some ⟨og,0,none⟩) (k+1) kc) (k+1) (opC (xs++[o]))/\base<=w2.heap.size) :
  Calls Tryz.prog 48 #[.pointer (some ⟨d,0,none⟩),.int .i64 (i:Int),.int .i64 tick] w fun e w'=>e=.returned (.bool true)/\∃ w2,PS w2/\jR [og] w2 w'/\∃ A' c',
   w'.ownsRow base 65 23 (.slice (some ⟨og,0,none⟩) (k+1) kc) (k+1) (opC (xs++[{ o with op:=op',ttl:=rO,nA:=A',nn:=1,nc:=c',dec:=if r=3 then tick else o.dec,ans:=if r=4 then tick else o.ans,kP:=if r=3 then p' else o.kP }])) /\
   w'.ownsRow base 30 3 (.slice A' 1 c') 1 (lq [x]):=by
 have y1:=h.c1;have z1:=hc.c1;have HM:=jP hm;have HP:=jP hP;have HR:=jP hr;clear hm hP hr;go_enter Tryz.func48,Tryz.ntmps48
 go_wp2_with fail
 refine (yN m cl ph tx op ttl nv at_ rv p w HM.1).mono ?_;rintro e w1 ⟨rfl,rfl⟩;go_wp2_with fail
 have y0:=h.c0;go_still_tail 8,(by kernel_rfl)
 change wpList _ _ _ _ _ (World.drew _);go_wp2_with fail
 refine hS.mono ?_;rintro e w2 ⟨rfl,hps⟩;obtain⟨hd2,hc2,⟨q,cq,rv',hm2,aho⟩,hrow2,hsz2⟩:=HP.1 w2 hps;have oN:=jP hm2;have ry:=jP aho;have HW2:=jP hrow2;have RF:=jP hps;clear h hc y0 y1 z1 hcell hm2 aho hrow2 hps HP;have y3:=hd2.c3;have z2:=hc2.c2;have z1:=hc2.c1;clear hd2;go_upto_region 5 with (fail)
 have hk0:(0:Int)<=(k:Int):=by omega
 have hk1:(k:Int)<((k+1:Nat):Int):=by omega
 have hk2:(k:Int).toNat=k:=by omega
 go_region
 have q1:=(lJ HW2.1 hx 1 rfl).1;have q2:=(lJ HW2.1 hx 2 rfl).1;have f1:=(lJ HW2.1 hx 1 rfl).2;have f2:=(lJ HW2.1 hx 2 rfl).2;go_wp2_with fail
 refine (Tf m cl vX tx op' rO _ 0 rv' p' w2.drew (by exact oN.1)).mono ?_;rintro e w3 ⟨rfl,mm,rfl⟩;go_upto_region 7 with (fail)
 have hw1:=rC HW2.1 { o with op:=op' } 1 (.int .i64 op') rfl hx;have hw3:=rC hw1 { o with op:=op',ttl:=rO } 2 (.int .i64 rO) rfl hx;have HW3:=jP (show ((((w2.drewN (1+mm)).setCell ⟨og,k*23+1,none⟩ (.int .i64 op')).setCell ⟨og,k*23+2,none⟩ (.int .i64 rO))).ownsRow base 65 23 (.slice (some ⟨og,0,none⟩) (k+1) kc) (k+1) (opC (xs++[{ o with op:=op',ttl:=rO }])) from hw3);have mX:=jP ((((jR.refl [og] w2).drewN (1+mm)).setCell (p:=⟨og,k*23+1,none⟩) (.inl (by simp)) (.int .i64 op')).setCell (p:=⟨og,k*23+2,none⟩) (.inl (by simp)) (.int .i64 rO));clear hw1 hw3 q1 q2 f1 f2;generalize hw4:((w2.drewN (1+mm)).setCell ⟨og,k*23+1,none⟩ (.int .i64 op')).setCell ⟨og,k*23+2,none⟩ (.int .i64 rO)=w4 at *;have Xa:∀ (g:Nat) (t:TypeId) (cs:Array Value),Bk w2 g t cs->t≠65->g∉[og]:=by
  intro g t cs hb ht;obtain⟨cs',hb'⟩:=kV HW2.1 og (by simp[jT]);simpa using Bk.ne hb hb' ht
 have BB:=jP (oN.1.jS mX.1 (Xa _ _ _ oN.1.bk (by decide)));have zO:=jP (hc2.jS mX.1 (Xa _ _ _ hc2.bk (by decide)));have w_:=jP (oD ry.1 mX.1 (fun g cs hb=>Xa _ _ _ hb (by decide)));clear hw4 z1 z2 y3;have z1:=zO.1.c1;go_wp2_with fail
 have alU:=mX.1.size;refine (YN BB.1 (Rd.kX w_.1) (ag _) (by omega)).mono ?_;rintro e w5 ⟨A',c',rfl,UU,hb5⟩;have uj:=jP (kD HW3.1 hb5);have xG:=jP UU;have lD:=jP (mX.1.add hb5 (ag _));have Cm:=jP (BB.1.below hb5 BB.1.lt);have HC5:=jP (show rJ w5 c0 b m (k:Int) from Bk.below zO.1.bk hb5 zO.1.lt);clear UU hb5 z1;have q3:=(lJ uj.1 hx 3 rfl).1;have f3:=(lJ uj.1 hx 3 rfl).2;go_upto_region 8 with (fail)
 have hw6:=rC uj.1 { o with op:=op',ttl:=rO,nA:=A',nn:=1,nc:=c' } 3 (.slice A' 1 c') rfl hx;have kT:jR [og] w5 (w5.setCell ⟨og,k*23+3,none⟩ (.slice A' 1 c')):=(jR.refl [og] w5).setCell (p:=⟨og,k*23+3,none⟩) (.inl (by simp)) _;have Ol:∀ (g:Nat) (t:TypeId) (cs:Array Value),Bk w5 g t cs->t≠65->g∉[og]:=by
  intro g t cs hb ht;obtain⟨cs',hb'⟩:=kV uj.1 og (by simp[jT]);simpa using Bk.ne hb hb' ht
 have zJ:=jP hw6;have lI:=jP (lD.1.trans kT);have qx:=jP (xY (oD xG.1 kT (fun g cs hb=>Ol _ _ _ hb (by decide))) (aK hsz2 alU));have yZ:=jP (Cm.1.jS kT (Ol _ _ _ Cm.1.bk (by decide)));have VF:=jP (HC5.1.jS kT (Ol _ _ _ HC5.1.bk (by decide)));clear hw6 kT q3 f3 Xa Ol;generalize hw7:w5.setCell ⟨og,k*23+3,none⟩ (.slice A' 1 c')=w7 at *;clear hw7;have ao7:¬op'=0:=by simpa using hop
 rcases HR.1 with rfl | rfl | rfl
 ·go_wp2_with fail
  go_ret
  exact⟨rfl,w2,RF.1,lI.1,A',c',zJ.1,qx.1⟩
 ·have z1:=VF.1.c1;go_wp2_with fail
  refine (OZ yZ.1).mono ?_;rintro e w8 ⟨rfl,hb8⟩;simp only[Rs.arr];have uh:=jP (kD zJ.1 hb8);have H_:=jP (kD qx.1 hb8);have Dz:=jP (lI.1.add hb8 (ag _));have HM8:=jP (yZ.1.below hb8 yZ.1.lt);clear hb8 z1;have d13:=(lJ uh.1 hx 13 rfl).1;have e13:=(lJ uh.1 hx 13 rfl).2;have d15:=(lJ uh.1 hx 15 rfl).1;have e15:=(lJ uh.1 hx 15 rfl).2;have d16:=(lJ uh.1 hx 16 rfl).1;have e16:=(lJ uh.1 hx 16 rfl).2;have d17:=(lJ uh.1 hx 17 rfl).1;have e17:=(lJ uh.1 hx 17 rfl).2;have d18:=(lJ uh.1 hx 18 rfl).1;have e18:=(lJ uh.1 hx 18 rfl).2;have d19:=(lJ uh.1 hx 19 rfl).1;have e19:=(lJ uh.1 hx 19 rfl).2;have d20:=(lJ uh.1 hx 20 rfl).1;have e20:=(lJ uh.1 hx 20 rfl).2;have d21:=(lJ uh.1 hx 21 rfl).1;have e21:=(lJ uh.1 hx 21 rfl).2;have d22:=(lJ uh.1 hx 22 rfl).1;have e22:=(lJ uh.1 hx 22 rfl).2;go_upto_region 11 with (fail)
  have qP:=rC uh.1 { o with op:=op',ttl:=rO,nA:=A',nn:=1,nc:=c',dec:=tick } 13 (.int .i64 tick) rfl hx;have W_:=abh qP p' hx;have acg:=Jw (k*23+15) ((jR.refl [og] w8).setCell (p:=⟨og,k*23+13,none⟩) (.inl (by simp)) (.int .i64 tick)) (.int .i64 p'.err) (.int .i64 p'.at_) (.string p'.nm) (.int .i64 p'.rc.st) (.int .i64 p'.rc.ow) (.string p'.rc.nm) (.int .i64 p'.rc.dl) (.int .i64 p'.tk);have aik:=jP W_;have ami:=jP (Dz.1.trans acg);have aml:=jP (oD H_.1 acg (fun g cs hb=>by
   obtain⟨cs',hb'⟩:=kV uh.1 og (by simp[jT]);simpa using Bk.ne hb hb' (by decide)))
  clear qP W_ acg d13 e13 d15 e15 d16 e16 d17 e17 d18 e18 d19 e19 d20 e20 d21 e21 d22 e22;generalize alr:((((((((w8.setCell ⟨og,k*23+13,none⟩ (.int .i64 tick)).setCell ⟨og,k*23+15,none⟩ (.int .i64 p'.err)).setCell ⟨og,k*23+15+1,none⟩ (.int .i64 p'.at_)).setCell ⟨og,k*23+15+2,none⟩ (.string p'.nm)).setCell ⟨og,k*23+15+3,none⟩ (.int .i64 p'.rc.st)).setCell ⟨og,k*23+15+4,none⟩ (.int .i64 p'.rc.ow)).setCell ⟨og,k*23+15+5,none⟩ (.string p'.rc.nm)).setCell ⟨og,k*23+15+6,none⟩ (.int .i64 p'.rc.dl)).setCell ⟨og,k*23+15+7,none⟩ (.int .i64 p'.tk)=TP at *;clear alr;have q9:=(lJ aik.1 hx 1 rfl).1;go_wp2_with fail
  go_ret
  exact⟨rfl,w2,RF.1,ami.1,A',c',aik.1,aml.1⟩
 ·have q7:=(lJ zJ.1 hx 14 rfl).1;have f7:=(lJ zJ.1 hx 14 rfl).2;go_wp2_with fail
  go_ret
  have hw8:=rC zJ.1 { o with op:=op',ttl:=rO,nA:=A',nn:=1,nc:=c',ans:=tick } 14 (.int .i64 tick) rfl hx;have oZ:jR [og] w7 (w7.setCell ⟨og,k*23+14,none⟩ (.int .i64 tick)):=(jR.refl [og] w7).setCell (p:=⟨og,k*23+14,none⟩) (.inl (by simp)) _;refine⟨rfl,w2,RF.1,lI.1.trans oZ,A',c',hw8,oD qx.1 oZ (fun g cs hb=>?_)⟩;obtain⟨cs',hb'⟩:=kV zJ.1 og (by simp[jT]);simpa using Bk.ne hb hb' (by decide)
end Go.Proofs.YtkachcflifhgiaaGreatDoor
namespace Go.Proofs.YtkachcflifhgiaaGreatDoor
open Go Go.RowKit Go.Shelf
variable {Vt:TV}
def lg (w:World)(K:List Nat)(ts:List TypeId):Prop:=∀ g∈K,∃ t cs,Bk w g t cs/\t∈ts
section
variable {w w':World} {K:List Nat} {ts:List TypeId} {g:Nat} {t:TypeId} {cs:Array Value}
theorem lg.nil:lg w [] ts:=fun g hg=>by simp at hg
theorem lg.cons (hb:Bk w g t cs)(ht:t∈ts)(h:lg w K ts):lg w (g::K) ts:=by
 intro g' hg';rcases aN.1 hg' with rfl | h1
 ·exact⟨t,cs,hb,ht⟩
 ·exact h g' h1
theorem lg.no (h:lg w K ts)(hb:Bk w g t cs)(ht:t∉ts):g∉K:=by
 intro hg;obtain⟨t',cs',hb',ht'⟩:=h g hg;exact Bk.ne hb hb' (fun e=>ht (e▸ht')) rfl
theorem lg.IC {b ch cap:Nat}{l:List ByteArray}(h:lg w K ts)(hb:Box w b ch cap l):ch∉K:=by
 intro hg;obtain⟨t',cs',hb',_⟩:=h ch hg;exact hb'.tq hb rfl
theorem lg.Gw {b ch cap:Nat}{l:List ByteArray}(h:lg w K ts)(hb:Box w b ch cap l)(ht:168∉ts):b∉K:=h.no hb.1 ht
theorem rY {base size n:Nat}{e:TypeId}{v:Value}{xs:List Value}(hw:w.ownsRow base e size v n xs)(ho:jR K w w')(h:lg w K ts)(ht:e∉ts):w'.ownsRow base e size v n xs:=
 oD hw ho (fun g cs hb=>h.no hb ht)
theorem Box.ty {b ch cap:Nat}{l:List ByteArray}(hb:Box w b ch cap l)(ho:jR K w w')(h:lg w K ts)(ht:168∉ts):Box w' b ch cap l:=hb.jS ho (h.Gw hb ht) (h.IC hb)
theorem nI.ty {g ls lo n u:Nat}{S:List kU}{O:List Int}(hl:nI w g ls lo n S O u)(ho:jR K w w')(h:lg w K ts)(h1:207∉ts)(h2:225∉ts)(h3:3∉ts):nI w' g ls lo n S O u:=
 hl.jS ho (h.no hl.k h1) (h.no hl.s h2) (h.no hl.o h3)
theorem lW.ty {g ss sr n u:Nat}{S:List kU}{R:List Rc}(hl:lW w g ss sr n S R u)(ho:jR K w w')(h:lg w K ts)(h1:209∉ts)(h2:225∉ts)(h3:41∉ts):lW w' g ss sr n S R u:=
 hl.jS ho (h.no hl.k h1) (h.no hl.s h2) (h.no hl.r h3)
end
structure Cl where
 c:Nat
 b:Nat
 ch:Nat
 m:Nat
 V:TV
structure nY where
 d:Nat
 s:Nat
 cw:Nat
 nc:Nat
 lk:Nat
 ls:Nat
 lo:Nat
 st:Nat
 ss:Nat
 sr:Nat
 kp:List (Nat×Array Value)
 T:Gm.Tab
 ok:Nat->Prop
 hi:Nat
def vI (I:nY)(B g:Nat):Prop:=B<=g/\I.ok g
def qI (L:List Cl):List Value:=L.map fun k=>.pointer (some ⟨k.c,0,none⟩)
theorem QN {L:List Cl}{j:Nat}{k:Cl}(h:L[j]?=some k):(qI L)[j]?=some (.pointer (some ⟨k.c,0,none⟩)):=by simp[qI,h]
def Idle (w:World)(k:Cl)(i:Int):Prop:=∃ o tx op ttl nv at_ rv p,rJ w k.c k.b k.m o/\Box w k.b k.ch 8 []/\kC k.V w k.m i 0 tx op ttl nv at_ rv p
theorem Idle.jS {w w':World}{k:Cl}{i:Int}{K:List Nat}(h:Idle w k i)(ho:jR K w w')(h1:k.c∉K)(h2:k.b∉K)(h3:k.ch∉K)(h4:k.m∉K):Idle w' k i:=by
 obtain⟨o,tx,op,ttl,nv,at_,rv,p,a,b,c⟩:=h;exact⟨o,tx,op,ttl,nv,at_,rv,p,a.jS ho h1,b.jS ho h2 h3,c.jS ho h4⟩
def adf (w:World)(B:Nat)(o:Opn):Prop:=∃ l,o.nn<=1/\w.ownsRow B 30 3 (.slice o.nA o.nn o.nc) o.nn (lq l)
structure Fx (w:World)(B:Nat)(I:nY)(L:List Cl)(i:Nat)(k:Cl)(xs:List Opn):Prop where
 row:w.ownsRow B 113 1 (.slice (some ⟨I.cw,0,none⟩) L.length I.nc) L.length (qI L)
 me:L[i]?=some k
 jS:∀ (j:Nat) (k':Cl),j≠i->L[j]?=some k'->Idle w k' (j:Int)
 Be:∀ (j:Nat) (k':Cl),j≠i->L[j]?=some k'->k'.c≠k.c/\k'.b≠k.b/\k'.ch≠k.ch/\k'.m≠k.m
 nm:∀ o∈xs,adf w I.hi o
 ne:I.ls≠I.ss
 lo:∀ g∈[I.d,I.s,I.cw,I.lk,I.ls,I.lo,I.st,I.ss,I.sr],vI I B g
 lc:∀ k'∈L,vI I B k'.c/\vI I B k'.b/\vI I B k'.ch/\vI I B k'.m
 sz:I.hi<=w.heap.size
 hh:∀ g,I.hi<=g->vI I B g
section
variable {w w':World} {B:Nat} {I:nY} {L:List Cl} {i:Nat} {k:Cl} {xs:List Opn} {K:List Nat} {ts:List TypeId}
theorem Fx.abx (h:Fx w B I L i k xs)(ho:jR K w w')(h1:∀ g cs,Bk w g 113 cs->g∉K)(h2:∀ (j:Nat) (k':Cl),j≠i->L[j]?=some k'->k'.c∉K/\k'.b∉K/\k'.ch∉K/\k'.m∉K)(h3:∀ g cs,Bk w g 30 cs->g∉K):Fx w' B I L i k xs:=by
 refine⟨oD h.row ho h1,h.me,?_,h.Be,?_,h.ne,h.lo,h.lc,aK h.sz ho.size,h.hh⟩
 ·intro j k' hj hk;obtain⟨a,b,c,d⟩:=h2 j k' hj hk;exact (h.jS j k' hj hk).jS ho a b c d
 ·intro o hm;obtain⟨l,h4,h5⟩:=h.nm o hm;exact⟨l,h4,oD h5 ho h3⟩
theorem Fx.ty {cs:Array Value}(h:Fx w B I L i k xs)(ho:jR (k.m::K) w w')(hm:Bk w k.m 156 cs)(hK:lg w K ts)
  (t1:113∉ts) (t2:30∉ts) (t3:115∉ts) (t4:168∉ts) (t5:156∉ts):Fx w' B I L i k xs:=by
 refine h.abx ho ?_ ?_ ?_
 ·intro g cs hb hg;rcases aN.1 hg with rfl | hg
  ·exact Bk.ne hb hm (by decide) rfl
  ·exact hK.no hb t1 hg
 ·intro j k' hj hk;obtain⟨d1,d2,d3,d4⟩:=h.Be j k' hj hk;obtain⟨o,tx,op,ttl,nv,at_,rv,p,a,b,c⟩:=h.jS j k' hj hk;refine⟨?_,?_,?_,?_⟩<;>intro hg<;>rcases aN.1 hg with e | hg
  ·exact Bk.ne a.bk hm (by decide) e
  ·exact hK.no a.bk t3 hg
  ·exact Bk.ne b.1 hm (by decide) e
  ·exact hK.Gw b t4 hg
  ·exact hm.tq b e.symm
  ·exact hK.IC b hg
  ·exact d4 e
  ·exact hK.no c.bk t5 hg
 ·intro g cs hb hg;rcases aN.1 hg with rfl | hg
  ·exact Bk.ne hb hm (by decide) rfl
  ·exact hK.no hb t2 hg
theorem Fx.ty' {cs:Array Value}(h:Fx w B I L i k xs)(ho:jR K w w')(hm:Bk w k.m 156 cs)(hK:lg w K ts)
  (t1:113∉ts) (t2:30∉ts) (t3:115∉ts) (t4:168∉ts) (t5:156∉ts):Fx w' B I L i k xs:=
 h.ty (ho.more (fun _ hm=>aU _ hm)) hm hK t1 t2 t3 t4 t5
theorem Fx.UG (h:Fx w B I L i k xs):vI I B k.c/\vI I B k.b/\vI I B k.ch/\vI I B k.m:=h.lc k (ay h.me)
theorem Fx.lt (h:Fx w B I L i k xs):i<L.length:=(ak.1 h.me).1
theorem Fx.cell (h:Fx w B I L i k xs):w.cell? ⟨I.cw,i,none⟩=some (.pointer (some ⟨k.c,0,none⟩)):=(qj h.row (QN h.me)).1
end
end Go.Proofs.YtkachcflifhgiaaGreatDoor
namespace Go.Proofs.YtkachcflifhgiaaGreatDoor
open Go Go.RowKit Go.Shelf
variable {Vt:TV}
def opT:List TypeId:=[65,109]
def Ug:List TypeId:=[165,207,225,3,209,41,43]
def J5:List TypeId:=[113,30,115,168,156,109,65]
def FM (V:World->Value->Prop):Prop:=∀ w w' K rv,V w rv->jR K w w'->lg w K opT->V w' rv
theorem lg.one {w:World}{g:Nat}{t:TypeId}{cs:Array Value}(h:Bk w g t cs):lg w [g] [t]:=fun g' hg'=>by
 obtain rfl:g'=g:=by simpa using hg'
 exact⟨t,cs,h,by simp⟩
theorem lg.mono {w:World}{K:List Nat}{ts ts':List TypeId}(h:lg w K ts)(hs:∀ t∈ts,t∈ts'):lg w K ts':=fun g hg=>by
 obtain⟨t,cs,a,b⟩:=h g hg;exact⟨t,cs,a,hs t b⟩
def Past (I:nY)(B:Nat)(w w':World):Prop:=∃ K,jR K w w'/\∀ g∈K,vI I B g
theorem Past.refl (I:nY)(B:Nat)(w:World):Past I B w w:=⟨[],jR.refl _ _,by simp⟩
theorem Past.trans {I:nY}{B:Nat}{w w' w'':World}(h:Past I B w w')(h':Past I B w' w''):Past I B w w'':=by
 obtain⟨K,a,b⟩:=h;obtain⟨K',a',b'⟩:=h';refine⟨K++K',(a.more (fun g hg=>cZ _ hg)).trans (a'.more (fun g hg=>dZ _ hg)),fun g hg=>?_⟩;rcases aO.1 hg with h | h
 ·exact b g h
 ·exact b' g h
theorem Past.of {I:nY}{B:Nat}{w w':World}{K:List Nat}(h:jR K w w')(hK:∀ g∈K,vI I B g):Past I B w w':=⟨K,h,hK⟩
theorem Past.of_below {I:nY}{B:Nat}{w w':World}(h:Below w.heap.size w w'):Past I B w w':=⟨[],jR.below h (ag _),by simp⟩
theorem Past.below {I:nY}{B:Nat}{w w':World}(h:Past I B w w')(hB:B<=w.heap.size):Below B w w':=by
 obtain⟨K,a,b⟩:=h;exact a.fresh (ai _ _) (fun g hg=>(b g hg).1) hB
def Bi (I:nY)(B:Nat)(V:TV)(w:World):Prop:=∃ lo hi,Bh w lo hi V I.T/\(∀ g,I.ok g->g<lo\/hi<=g)/\xg w B/\B<=hi
theorem Bi.past {I:nY}{B:Nat}{V:TV}{w w':World}(h:Bi I B V w)(hp:Past I B w w'):Bi I B V w':=by
 obtain⟨lo,hi,a,b,c,d⟩:=h;have hs:=a.1;have hb:=hp.below (aK d hs);obtain⟨K,ho,hk⟩:=hp;exact⟨lo,hi,a.step (Ag.jS ho hs (fun g hg=>(b g (hk g hg).2).symm)) (aK hs ho.size),b,c.below hb,d⟩
theorem Bi.tab {I:nY}{B:Nat}{V:TV}{w:World}(h:Bi I B V w):∃ B0,j_ w B0 V I.T/\B0<=w.heap.size:=by
 obtain⟨lo,hi,a,b,c,d⟩:=h;exact⟨hi,a.here (c.more d),a.1⟩
structure Sh (w:World)(I:nY)(n lim now cnt:Int)(lS:List kU)(lO:List Int)(lu:Nat)(sS:List kU)(sR:List Rc)(su:Nat):Prop where
 s:mJ w I.s n lim now cnt I.lk I.st
 l:nI w I.lk I.ls I.lo 2048 lS lO lu
 t:lW w I.st I.ss I.sr 16 sS sR su
 kp:∀ a∈I.kp,Bk w a.1 43 a.2
section
variable {w w':World} {B:Nat} {I:nY} {L:List Cl} {i:Nat} {k:Cl} {xs:List Opn} {K:List Nat} {ts:List TypeId} {n lim now cnt:Int} {lS:List kU} {lO:List Int} {lu:Nat} {sS:List kU} {sR:List Rc} {su:Nat}
theorem Sh.ty (h:Sh w I n lim now cnt lS lO lu sS sR su)(ho:jR K w w')(hK:lg w K ts)(hts:∀ t∈ts,t∉Ug):Sh w' I n lim now cnt lS lO lu sS sR su:=by
 have no:∀ {t:TypeId},t∈Ug->t∉ts:=fun ht h=>hts _ h ht;exact⟨h.s.jS ho (hK.no h.s.bk (no (by decide))),h.l.ty ho hK (no (by decide)) (no (by decide)) (no (by decide)),h.t.ty ho hK (no (by decide)) (no (by decide)) (no (by decide)),fun a ha=>(h.kp a ha).jS ho (hK.no (h.kp a ha) (no (by decide)))⟩
structure Bz (w:World)(B:Nat)(I:nY)(L:List Cl)(i:Nat)(k:Cl)(xs:List Opn)(st:Int)(oA:Option Addr)(oc:Nat)(o:Opn):Prop where
 fx:Fx w B I L i k xs
 d:nP w I.d I.s (.slice (some ⟨I.cw,0,none⟩) L.length I.nc) st (.slice oA (xs.length+1) oc)
 c:rJ w k.c k.b k.m (xs.length:Int)
 b:Box w k.b k.ch 8 []
 r:w.ownsRow I.hi 65 23 (.slice oA (xs.length+1) oc) (xs.length+1) (opC (xs++[o]))
variable {st:Int} {oA:Option Addr} {oc:Nat} {o:Opn}
theorem Bz.ty {cs:Array Value}(h:Bz w B I L i k xs st oA oc o)(ho:jR (k.m::K) w w')(hm:Bk w k.m 156 cs)(hK:lg w K ts)(hts:∀ t∈ts,t∉J5):Bz w' B I L i k xs st oA oc o:=by
 have no:∀ {t:TypeId},t∈J5->t∉ts:=fun ht h=>hts _ h ht;have hno:∀ {g:Nat} {t:TypeId} {cs:Array Value},Bk w g t cs->t≠156->t∈J5->g∉k.m::K:=by
  intro g t cs hb ht h1 hg;rcases aN.1 hg with e | hg
  ·exact Bk.ne hb hm ht e
  ·exact hK.no hb (no h1) hg
 refine⟨h.fx.ty ho hm hK (no (by decide)) (no (by decide)) (no (by decide)) (no (by decide)) (no (by decide)),h.d.jS ho (hno h.d.bk (by decide) (by decide)),h.c.jS ho (hno h.c.bk (by decide) (by decide)),h.b.jS ho ?_ ?_,oD h.r ho (fun g cs hb=>hno hb (by decide) (by decide))⟩
 ·exact hno h.b.1 (by decide) (by decide)
 ·intro hg;rcases aN.1 hg with e | hg
  ·exact hm.tq h.b e.symm
  ·exact hK.IC h.b hg
structure Mid (B:Nat)(I:nY)(L:List Cl)(i:Nat)(k:Cl)(xs:List Opn)(x:Nm)(op ttl ph:Int)(V:World->Value->Prop)(p:Rs)(ans:Int)(kP:Rs)(st:Int)(w:World):Prop where
 ex:∃ oA oc q cq A' c' rv tx begun dec,Bz w B I L i k xs st oA oc ⟨(i:Int),op,ttl,A',1,c',Rs.zero,begun,dec,ans,kP⟩/\w.ownsRow I.hi 30 3 (.slice A' 1 c') 1 (lq [x]) /\
  kC k.V w k.m (i:Int) ph tx op ttl (.slice (some ⟨q,0,none⟩) 1 cq) 0 rv p/\w.ownsRow I.hi 30 3 (.slice (some ⟨q,0,none⟩) 1 cq) 1 (lq [x])/\V w rv
variable {x:Nm} {op ttl ph vX:Int} {V V':World->Value->Prop} {p p':Rs} {ans:Int} {kP:Rs}
theorem Mid.lo (h:Mid B I L i k xs x op ttl ph V p ans kP st w):∀ g∈[I.d,I.s,I.cw,I.lk,I.ls,I.lo,I.st,I.ss,I.sr],vI I B g:=by
 obtain⟨oA,oc,q,cq,A',c',rv,tx,begun,dec,hb,_⟩:=h.ex;exact hb.fx.lo
theorem wP (tick r:Int)(h:Mid B I L i k xs x op ttl ph V p ans kP st w)(hL:L.length<=64)(hxs:xs.length<=100)(wY:(ph==0)=false)(hr:r=1\/r=3\/r=4)(hop:(op==0)=false)(hV:FM V)(hV':FM V')
  (hS:∀ (w:World) (q cq:Nat) (rv:Value) (tx:ByteArray),kC k.V w k.m (i:Int) ph tx op ttl (.slice (some ⟨q,0,none⟩) 1 cq) 0 rv p->V w rv->w.ownsRow I.hi 30 3 (.slice (some ⟨q,0,none⟩) 1 cq) 1 (lq [x])->I.hi<=w.heap.size ->
   Calls Tryz.prog 101 #[.pointer (some ⟨k.m,0,none⟩),.pointer (some ⟨I.s,0,none⟩)] w fun e w'=>e=.returned (.int .i64 r)/\∃ K ts rv',jR (k.m::K) w w'/\(∀ g∈K,vI I B g)/\lg w K ts/\(∀ t∈ts,t∉J5)/\kC k.V w' k.m (i:Int) vX tx op ttl (.slice (some ⟨q,0,none⟩) 1 cq) 0 rv' p'/\V' w' rv') :
  Calls Tryz.prog 48 #[.pointer (some ⟨I.d,0,none⟩),.int .i64 (i:Int),.int .i64 tick] w fun e w'=>e=.returned (.bool true)/\Mid B I L i k xs x op ttl vX V' p' (if r=4 then tick else ans) (if r=3 then p' else kP) st w'/\Past I B w w':=by
 obtain⟨oA,oc,q,cq,A',c',rv,tx,begun,dec,hb,hnr,hm,hnm,hv⟩:=h.ex;obtain⟨og,rfl,hog,_⟩:=BR hb.r rfl;have hv1:V w.drew rv:=hV w w.drew [] rv hv ((jR.refl [] w).drew) lg.nil;have hb2:∀ w2 K ts,jR (k.m::K) w.drew w2->lg w.drew K ts->(∀ t∈ts,t∉J5)->Bz w2 B I L i k xs st (some ⟨og,0,none⟩) oc ⟨(i:Int),op,ttl,A',1,c',Rs.zero,begun,dec,ans,kP⟩/\w2.ownsRow I.hi 30 3 (.slice (some ⟨q,0,none⟩) 1 cq) 1 (lq [x]):=by
  intro w2 K ts ho hK hts;have ho2:jR (k.m::K) w w2:=((jR.refl _ w).drew).trans ho;refine⟨hb.ty ho2 hm.bk hK hts,oD hnm ho2 ?_⟩;intro g cs hbk hg;rcases aN.1 hg with e | hg
  ·exact Bk.ne hbk hm.bk (by decide) e
  ·exact lg.no (w:=w) hK hbk (fun h=>hts _ h (by decide)) hg
 refine (Uw (nn:=0) (t:=tx) (op':=op) (rO:=ttl) (p':=p') (x:=x) (vX:=vX) (base:=I.hi) (o:=⟨(i:Int),op,ttl,A',1,c',Rs.zero,begun,dec,ans,kP⟩) (PS:=fun w2=>∃ K ts rv',jR (k.m::K) w.drew w2/\(∀ g∈K,vI I B g)/\lg w.drew K ts/\(∀ t∈ts,t∉J5)/\kC k.V w2 k.m (i:Int) vX tx op ttl (.slice (some ⟨q,0,none⟩) 1 cq) 0 rv' p'/\V' w2 rv') tick r
  hb.d hb.fx.lt hL hb.fx.cell hb.c hm wY hxs rfl hr hop (hS w.drew q cq rv tx hm hv1 hnm hb.fx.sz) ?_).mono ?_
 ·rintro w2 ⟨K,ts,rv',ho,Zz,hK,hts,hm2,hv2⟩;obtain⟨b2,n2⟩:=hb2 w2 K ts ho hK hts;exact⟨b2.d,b2.c,⟨q,cq,rv',hm2,n2⟩,b2.r,b2.fx.sz⟩
 ·rintro e w' ⟨rfl,w2,⟨K,ts,rv',ho,Zz,hK,hts,hm2,hv2⟩,ho2,A2,c2,hr2,hn2⟩;obtain⟨b2,n2⟩:=hb2 w2 K ts ho hK hts;obtain⟨cso,Zw⟩:=kV b2.r og (by simp[jT]);have hT:=lg.one Zw;refine⟨rfl,⟨some ⟨og,0,none⟩,oc,q,cq,A2,c2,rv',tx,begun,_,⟨b2.fx.ty' ho2 hm2.bk hT (by decide) (by decide) (by decide) (by decide) (by decide),b2.d.jS ho2 (hT.no b2.d.bk (by decide)),b2.c.jS ho2 (hT.no b2.c.bk (by decide)),b2.b.jS ho2 (hT.Gw b2.b (by decide)) (hT.IC b2.b),hr2⟩,hn2,hm2.jS ho2 (hT.no hm2.bk (by decide)),oD n2 ho2 (fun g cs hb=>hT.no hb (by decide)),hV' w2 w' [og] rv' hv2 ho2 (hT.mono (by decide))⟩,(Past.of (((jR.refl _ w).drew).trans ho) (by simp only[aN,iw];exact⟨hb.fx.UG.2.2.2,Zz⟩)).trans (Past.of ho2 (by simpa using hb.fx.hh _ hog))⟩
end
end Go.Proofs.YtkachcflifhgiaaGreatDoor
namespace Go.Proofs.YtkachcflifhgiaaGreatDoor
open Go Go.RowKit Go.Shelf
variable {Vt:TV}
section
variable {w w':World} {B:Nat} {I:nY} {L:List Cl} {i:Nat} {k:Cl} {xs:List Opn} {K:List Nat} {ts:List TypeId} {n lim now cnt:Int} {lS:List kU} {lO:List Int} {lu:Nat} {sS:List kU} {sR:List Rc} {su:Nat}
variable {st:Int} {oA:Option Addr} {oc:Nat} {o:Opn} {x:Nm} {op ttl ph op' rO vX:Int} {V V':World->Value->Prop} {p p':Rs} {ans:Int} {kP:Rs} {tx:ByteArray} {nv rv:Value} {at_:Int}
theorem own_base {w:World}{base size n c g:Nat}{e:TypeId}{xs:List Value}(h:w.ownsRow base e size (.slice (some ⟨g,0,none⟩) n c) n xs):base<=g/\g<w.heap.size:=by
 rcases h.2 with ⟨h1,_⟩ | ⟨g',cap,cur,h1,h2,h3,h4⟩
 ·cases h1
 ·injection h1 with e1 _ _
  injection e1 with e1;injection e1 with e1 _ _
  subst e1;exact⟨h2,Bk.lt h3⟩
theorem abk {w:World}{base size n c:Nat}{a:Addr}{e:TypeId}{xs:List Value}(h:w.ownsRow base e size (.slice (some a) n c) n xs):∃ g,a=⟨g,0,none⟩:=by
 rcases h.2 with ⟨h1,_⟩ | ⟨g',cap,cur,h1,h2,h3,h4⟩
 ·cases h1
 ·injection h1 with e1 _ _
  injection e1 with e1
  exact⟨g',e1⟩
def NoK (w:World)(K:List Nat)(ts:List TypeId):Prop:=∀ (g:Nat) (t:TypeId) (cs:Array Value),Bk w g t cs->t∉ts->g∉K
theorem Sh.no (h:Sh w I n lim now cnt lS lO lu sS sR su)(ho:jR K w w')(hK:NoK w K ts)(hts:∀ t∈ts,t∉Ug):Sh w' I n lim now cnt lS lO lu sS sR su:=by
 have no:∀ {t:TypeId},t∈Ug->t∉ts:=fun ht h=>hts _ h ht;exact⟨h.s.jS ho (hK _ _ _ h.s.bk (no (by decide))),h.l.jS ho (hK _ _ _ h.l.k (no (by decide))) (hK _ _ _ h.l.s (no (by decide))) (hK _ _ _ h.l.o (no (by decide))),h.t.jS ho (hK _ _ _ h.t.k (no (by decide))) (hK _ _ _ h.t.s (no (by decide))) (hK _ _ _ h.t.r (no (by decide))),fun a ha=>(h.kp a ha).jS ho (hK _ _ _ (h.kp a ha) (no (by decide)))⟩
theorem agb (tick r:Int)(hb:Bz w B I L i k xs st oA oc o)(hcl:o.cl=(i:Int))(hbad:o.bad=Rs.zero)(hm:kC k.V w k.m (i:Int) ph tx op ttl nv at_ rv p)(hL:L.length<=64)(hxs:xs.length<=100)(wY:(ph==0)=false)(hr:r=1\/r=3\/r=4)(hop:(op'==0)=false)(hV':FM V')
  (hS:Calls Tryz.prog 101 #[.pointer (some ⟨k.m,0,none⟩),.pointer (some ⟨I.s,0,none⟩)] w.drew fun e w'=>e=.returned (.int .i64 r)/\∃ K ts q cq rv',jR (k.m::K) w.drew w'/\(∀ g∈K,vI I B g)/\lg w.drew K ts/\(∀ t∈ts,t∉J5)/\kC k.V w' k.m (i:Int) vX tx op' rO (.slice (some ⟨q,0,none⟩) 1 cq) 0 rv' p'/\w'.ownsRow I.hi 30 3 (.slice (some ⟨q,0,none⟩) 1 cq) 1 (lq [x])/\V' w' rv') :
  Calls Tryz.prog 48 #[.pointer (some ⟨I.d,0,none⟩),.int .i64 (i:Int),.int .i64 tick] w fun e w'=>e=.returned (.bool true)/\Mid B I L i k xs x op' rO vX V' p' (if r=4 then tick else o.ans) (if r=3 then p' else o.kP) st w'/\Past I B w w':=by
 obtain⟨og,rfl,hog,_⟩:=BR hb.r rfl;have hb2:∀ w2 K ts,jR (k.m::K) w.drew w2->lg w.drew K ts->(∀ t∈ts,t∉J5)->Bz w2 B I L i k xs st (some ⟨og,0,none⟩) oc o:=by
  intro w2 K ts ho hK hts;have ho2:jR (k.m::K) w w2:=((jR.refl _ w).drew).trans ho;exact hb.ty ho2 hm.bk hK hts
 refine (Uw (nn:=0) (t:=tx) (op':=op') (rO:=rO) (p':=p') (x:=x) (vX:=vX) (base:=I.hi) (o:=o) (PS:=fun w2=>∃ K ts q cq rv',jR (k.m::K) w.drew w2/\(∀ g∈K,vI I B g)/\lg w.drew K ts/\(∀ t∈ts,t∉J5)/\kC k.V w2 k.m (i:Int) vX tx op' rO (.slice (some ⟨q,0,none⟩) 1 cq) 0 rv' p'/\w2.ownsRow I.hi 30 3 (.slice (some ⟨q,0,none⟩) 1 cq) 1 (lq [x])/\V' w2 rv') tick r
  hb.d hb.fx.lt hL hb.fx.cell hb.c hm wY hxs rfl hr hop hS ?_).mono ?_
 ·rintro w2 ⟨K,ts,q,cq,rv',ho,Zz,hK,hts,hm2,n2,hv2⟩;have b2:=hb2 w2 K ts ho hK hts;exact⟨b2.d,b2.c,⟨q,cq,rv',hm2,n2⟩,b2.r,b2.fx.sz⟩
 ·rintro e w' ⟨rfl,w2,⟨K,ts,q,cq,rv',ho,Zz,hK,hts,hm2,n2,hv2⟩,ho2,A2,c2,hr2,hn2⟩;have b2:=hb2 w2 K ts ho hK hts;obtain⟨cso,Zw⟩:=kV b2.r og (by simp[jT]);have hT:=lg.one Zw;obtain⟨ocl,oop,aoU,onA,onn,onc,aoY,aln,aoX,aoZ,aoV⟩:=o;subst hcl;subst hbad;refine⟨rfl,⟨some ⟨og,0,none⟩,oc,q,cq,A2,c2,rv',tx,aln,_,⟨b2.fx.ty' ho2 hm2.bk hT (by decide) (by decide) (by decide) (by decide) (by decide),b2.d.jS ho2 (hT.no b2.d.bk (by decide)),b2.c.jS ho2 (hT.no b2.c.bk (by decide)),b2.b.jS ho2 (hT.Gw b2.b (by decide)) (hT.IC b2.b),hr2⟩,hn2,hm2.jS ho2 (hT.no hm2.bk (by decide)),oD n2 ho2 (fun g cs hb=>hT.no hb (by decide)),hV' w2 w' [og] rv' hv2 ho2 (hT.mono (by decide))⟩,(Past.of (((jR.refl _ w).drew).trans ho) (by simp only[aN,iw];exact⟨hb.fx.UG.2.2.2,Zz⟩)).trans (Past.of ho2 (by simpa using hb.fx.hh _ hog))⟩
structure Start (B:Nat)(I:nY)(L:List Cl)(i:Nat)(k:Cl)(xs:List Opn)(t:ByteArray)(st:Int)(w:World):Prop where
 fx:Fx w B I L i k xs
 ex:∃ oA oc o tx op ttl nv at_ rv p,nP w I.d I.s (.slice (some ⟨I.cw,0,none⟩) L.length I.nc) st (.slice oA xs.length oc)/\rJ w k.c k.b k.m o/\Box w k.b k.ch 8 [t]/\kC k.V w k.m (i:Int) 0 tx op ttl nv at_ rv p/\w.ownsRow I.hi 65 23 (.slice oA xs.length oc) xs.length (opC xs)
structure CJ (B:Nat)(I:nY)(L:List Cl)(i:Nat)(k:Cl)(xs:List Opn)(t:ByteArray)(st:Int)(w:World):Prop where
 ex:∃ oA oc begun,Bz w B I L i k xs st oA oc ⟨(i:Int),0,0,none,0,0,Rs.zero,begun,-1,-1,Rs.zero⟩/\kC k.V w k.m (i:Int) 1 t 0 0 (.slice none 0 0) 0 (.slice none 0 0) Rs.zero
theorem J8 {t:ByteArray}(tick:Int)(h:Start B I L i k xs t st w)(hL:L.length<=64)(hxs:xs.length<=100)(hsh:Sh w I n lim now cnt lS lO lu sS sR su) :
  Calls Tryz.prog 48 #[.pointer (some ⟨I.d,0,none⟩),.int .i64 (i:Int),.int .i64 tick] w fun e w'=>e=.returned (.bool true)/\CJ B I L i k xs t st w'/\Sh w' I n lim now cnt lS lO lu sS sR su/\Past I B w w':=by
 obtain⟨oA,oc,o,tx,op,ttl,nv,at_,rv,p,hd,hc,hb,hm,hr⟩:=h.ex;refine (Wy tick hd h.fx.lt hL h.fx.cell hc hb hm oA oc rfl hxs hr h.fx.sz).mono ?_;rintro e w' ⟨A',c',rfl,hd',hc',hb',hm',hr',ho⟩;have hno:∀ (g:Nat) (t:TypeId) (cs:Array Value),Bk w g t cs->t≠156->t≠115->t≠109->t≠65->g∉k.ch::k.m::k.c::I.d::jT oA:=by
  intro g t cs hg h1 h2 h3 h4 hmem;simp only[aN] at hmem;rcases hmem with e | e | e | e | e
  ·exact hg.tq hb e
  ·exact Bk.ne hg hm.bk h1 e
  ·exact Bk.ne hg hc.bk h2 e
  ·exact Bk.ne hg hd.bk h3 e
  ·exact yL hr hg h4 e
 have hK:NoK w (k.ch::k.m::k.c::I.d::jT oA) [156,115,109,65]:=by
  intro g t cs hg ht;simp only[aN,aZ,dw,not_or] at ht;exact hno g t cs hg ht.1 ht.2.1 ht.2.2.1 ht.2.2.2
 refine⟨rfl,⟨A',c',tick,⟨?_,hd',hc',hb',hr'⟩,hm'⟩,hsh.no ho hK (by decide),Past.of ho ?_⟩;rotate_left
 ·intro g hg;simp only[aN] at hg;rcases hg with rfl | rfl | rfl | rfl | hg
  ·exact h.fx.UG.2.2.1
  ·exact h.fx.UG.2.2.2
  ·exact h.fx.UG.1
  ·exact h.fx.lo _ (by simp)
  ·cases oA with
   | none=>simp[jT] at hg
   | some a=>
    obtain⟨g',e⟩:=abk hr;subst e;simp[jT] at hg;subst hg;exact h.fx.hh _ (own_base hr).1
 refine h.fx.abx ho (fun g cs hg=>hno g _ cs hg (by decide) (by decide) (by decide) (by decide)) ?_ (fun g cs hg=>hno g _ cs hg (by decide) (by decide) (by decide) (by decide));intro j k' hj hk;obtain⟨d1,d2,d3,d4⟩:=h.fx.Be j k' hj hk;obtain⟨o',tx',op',rO,nv',at',rv',p',a,b,c⟩:=h.fx.jS j k' hj hk;simp only[aN,not_or];refine⟨⟨a.bk.tq hb,Bk.ne a.bk hm.bk (by decide),d1,Bk.ne a.bk hd.bk (by decide),yL hr a.bk (by decide)⟩,⟨Bk.tq b.1 hb,Bk.ne b.1 hm.bk (by decide),Bk.ne b.1 hc.bk (by decide),Bk.ne b.1 hd.bk (by decide),(BM hr b (by decide)).1⟩,
  ⟨d3,(hm.bk.tq b).symm,(hc.bk.tq b).symm,(hd.bk.tq b).symm,(BM hr b (by decide)).2⟩,⟨c.bk.tq hb,d4,Bk.ne c.bk hc.bk (by decide),Bk.ne c.bk hd.bk (by decide),yL hr c.bk (by decide)⟩⟩
end
end Go.Proofs.YtkachcflifhgiaaGreatDoor
namespace Go.Proofs.YtkachcflifhgiaaGreatDoor
open Go Go.RowKit Go.Shelf
variable {Vt:TV}
structure lZ where
 S:List kU
 R:List Rc
 U:Nat
namespace lZ
def z:lZ:=⟨mM 16,yA 16,0⟩
def ok (r:lZ):Prop:=Sl.WF (qH 16) 16 r.S/\r.R.length=16/\r.U=Sl.cnt r.S
def get (r:lZ)(x:Nm):Rc:=CW 16 r.S r.R x.k
def put (r:lZ)(x:Nm)(q:Rc):lZ:=
 if (Sl.find (qH 16) r.S x.k).2=true then ⟨r.S,r.R.set (Sl.find (qH 16) r.S x.k).1 q,r.U⟩ else ⟨r.S.set (Sl.find (qH 16) r.S x.k).1 ⟨true,x.k⟩,r.R.set (Sl.find (qH 16) r.S x.k).1 q,r.U+1⟩
theorem lt {r:lZ}(h:r.ok)(x:Nm):(Sl.find (qH 16) r.S x.k).1<16:=by
 rcases Sl.xy h.1 x.k with ⟨i,h1,h2,_⟩ | ⟨i,h1,h2,_⟩<;>rw[h2]<;>exact h1
theorem VH:z.ok:=by
 refine⟨⟨BV 16,fun k=>yj k 16 (by omega),fun i j _ _ hu _=>?_,fun i j _ _ hu _ _=>?_,⟨0,by omega,yS⟩⟩,by simp[z,yA],by unfold z mM Sl.cnt;decide⟩
 ·rw[show (Sl.gt z.S i).u=false from yS] at hu;cases hu
 ·rw[show (Sl.gt z.S i).u=false from yS] at hu;cases hu
theorem VI (x:Nm):z.get x=Rc.none:=by
 unfold get CW;rw[show Sl.find (qH 16) z.S x.k=(oU x.k 16,false) from Nb 16 (by omega) x.k];rfl
theorem O9 {r:lZ}(h:r.ok)(hu:r.U+2<=16)(x:Nm)(q:Rc):(r.put x q).ok:=by
 unfold put;rcases Sl.xy h.1 x.k with ⟨i,h1,h2,_⟩ | ⟨i,h1,h2,h3,h4,h5⟩
 ·rw[h2,aj rfl];exact⟨h.1,by simp[h.2.1],h.2.2⟩
 ·rw[h2,ah (by simp)];have hl:i<r.S.length:=by rw[h.1.len];exact h1
  have hc:=Sl.LH (S:=r.S) (i:=i) ⟨true,x.k⟩ hl;rw[h3] at hc;simp at hc;exact⟨Sl.XO h.1 h1 h3 h4 h5 (by rw[<-h.2.2];exact hu),by simp[h.2.1],by show r.U+1=_;rw[hc,h.2.2]⟩
theorem adF {r:lZ}(x:Nm)(q:Rc):(r.put x q).U<=r.U+1:=by
 unfold put;split
 ·exact jJ _
 ·exact ag _
theorem get_put {r:lZ}(h:r.ok)(hu:r.U+2<=16)(x y:Nm)(q:Rc):(r.put x q).get y=if y.k=x.k then q else r.get y:=by
 have ho:=O9 h hu x q;have hhit:∀ {S:List kU} {i:Nat},Sl.WF (qH 16) 16 S->i<16->(Sl.gt S i).u=true->Sl.find (qH 16) S (Sl.gt S i).k=(i,true):=fun hw hi hg=>Sl.Ea hw hi hg rfl;have hgt:∀ (R:List Rc) (i j:Nat),i<R.length->(R.set i q).getD j Rc.none=if i=j then q else R.getD j Rc.none:=by
  intro R i j hi;rw[aY,List.getElem?_set,aY];by_cases e:i=j
  ·subst e;simp[hi]
  ·simp[e]
 rcases Sl.xy h.1 x.k with ⟨i,h1,h2,h3,h4⟩ | ⟨i,h1,h2,h3,h4,h5⟩
 ·have e:r.put x q=⟨r.S,r.R.set i q,r.U⟩:=by unfold put;rw[h2,aj rfl]
  rw[e];show CW 16 r.S (r.R.set i q) y.k=_;unfold get CW;rcases Sl.xy h.1 y.k with ⟨j,g1,g2,g3,g4⟩ | ⟨j,g1,g2,g3,g4,g5⟩
  ·rw[g2,aj rfl,aj rfl];simp only;rw[hgt _ _ _ (by rw[h.2.1];exact h1)];by_cases ey:y.k=x.k
   ·have:i=j:=h.1.uniq i j h1 g1 h3 g3 (by rw[h4,g4,ey]);rw[aj this,aj ey]
   ·have:i≠j:=by rintro rfl;exact ey (by rw[<-g4,h4])
    rw[ah this,ah ey]
  ·rw[g2];simp only[bJ,fQ];rw[ah (fun ey=>g4 i h1 h3 (by rw[h4,ey]))]
 ·have e:r.put x q=⟨r.S.set i ⟨true,x.k⟩,r.R.set i q,r.U+1⟩:=by unfold put;rw[h2,ah (by simp)]
  have hl:i<r.S.length:=by rw[h.1.len];exact h1
  rw[e] at ho ⊢;have hw:Sl.WF (qH 16) 16 (r.S.set i ⟨true,x.k⟩):=ho.1;have hgs:=fun j=>Sl.JP (S:=r.S) (j:=j) (s:=⟨true,x.k⟩) hl;show CW 16 (r.S.set i ⟨true,x.k⟩) (r.R.set i q) y.k=_;unfold get CW;by_cases ey:y.k=x.k
  ·have:=Sl.Ea (key:=y.k) hw h1 (by rw[hgs,aj rfl]) (by rw[hgs,aj rfl];exact ey.symm);rw[this,aj rfl,aj ey];simp only;rw[hgt _ _ _ (by rw[h.2.1];exact h1),aj rfl]
  ·rw[ah ey];rcases Sl.xy h.1 y.k with ⟨j,g1,g2,g3,g4⟩ | ⟨j,g1,g2,g3,g4,g5⟩
   ·have hij:i≠j:=by rintro rfl;rw[h3] at g3;cases g3
    have:=Sl.Ea (key:=y.k) hw g1 (by rw[hgs,ah hij];exact g3) (by rw[hgs,ah hij];exact g4);rw[this,g2,aj rfl,aj rfl];simp only;rw[hgt _ _ _ (by rw[h.2.1];exact h1),ah hij]
   ·obtain⟨j',f1,f2,_⟩:=Sl.Na (key:=y.k) hw (fun a ha hu=>by
     rw[hgs] at hu ⊢;by_cases ea:i=a
     ·rw[aj ea];exact fun e=>ey e.symm
     ·rw[ah ea] at hu ⊢;exact g4 a ha hu)
    rw[f2,g2];simp
end lZ
def SX (x:Nm)(r:lZ):List kU:=r.S
def RX (x:Nm)(r:lZ):List Rc:=r.R
def UX (r:lZ):Nat:=r.U
theorem agv (x:Nm)(r:lZ):CW 16 (SX x r) (RX x r) x.k=r.get x:=rfl
theorem agu (x:Nm)(r:lZ)(hro:r.ok)(hU:r.U<=11)(r':Rc)(hr:r'.Fe)(hk:x.k.size<=1000000)(st ss sr:Nat)(w:World)(h:lW w st ss sr 16 (SX x r) (RX x r) (UX r)) :
  Calls Tryz.prog 166 #[.pointer (some ⟨st,0,none⟩),.string x.k,.agg r'.arr] w fun e w'=>e=.returned (.int .i64 0)/\lW w' st ss sr 16 (SX x (r.put x r')) (RX x (r.put x r')) (UX (r.put x r'))/\jR [st,ss,sr] w w':=by
 obtain⟨z,hz,hfree⟩:=hro.1.free;have hlt:=lZ.lt hro x;obtain⟨S,R,U⟩:=r;by_cases hf:(Sl.find (qH 16) S x.k).2=true
 ·rw[show lZ.put ⟨S,R,U⟩ x r'=⟨S,R.set (Sl.find (qH 16) S x.k).1 r',U⟩ by unfold lZ.put;rw[aj hf]];exact abo st ss sr 16 U _ S R x.k r' w h (by omega) (by omega) hk hr z hz hfree (Prod.ext rfl hf) hlt
 ·rw[show lZ.put ⟨S,R,U⟩ x r'=⟨S.set (Sl.find (qH 16) S x.k).1 ⟨true,x.k⟩,R.set (Sl.find (qH 16) S x.k).1 r',U+1⟩ by unfold lZ.put;rw[ah hf]];exact ae0 st ss sr 16 U _ S R x.k r' w h (by omega) (by omega) hk (by have:U<=11:=hU;omega) hr z hz hfree (Prod.ext rfl (by simpa using hf)) hlt
theorem DT {w:World}{base size n c:Nat}{e:TypeId}{A:Option Addr}{xs:List Value}(h:w.ownsRow base e size (.slice A n c) n xs)(hn:0<n):∃ g,A=some ⟨g,0,none⟩:=by
 rcases h.2 with ⟨_,h0⟩ | ⟨g',cap,cur,h1,h2,h3,h4⟩
 ·omega
 ·injection h1 with e1 _ _
  exact⟨g',e1⟩
section
variable {w w':World} {B:Nat} {I:nY} {L:List Cl} {i:Nat} {k:Cl} {xs:List Opn} {K:List Nat} {ts:List TypeId} {n lim now cnt:Int}
variable {st:Int} {x:Nm} {op ttl ph:Int} {p p':Rs} {ans:Int} {kP:Rs} {r:lZ} {r0:Rc}
def qw (I:nY)(n lim now cnt:Int)(x:Nm)(r:lZ)(w:World):Prop:=I.ls≠I.ss/\∃ lO,Sh w I n lim now cnt (mM 2048) lO 0 (SX x r) (RX x r) (UX r)
def Ri (I:nY)(n lim now cnt:Int)(x:Nm)(i:Nat)(r:lZ)(w:World):Prop:=I.ls≠I.ss/\∃ lO,lO[oU x.k 2048]?=some (i:Int)/\Sh w I n lim now cnt ((mM 2048).set (oU x.k 2048) ⟨true,x.k⟩) lO 1 (SX x r) (RX x r) (UX r)
theorem qw.ty (h:qw I n lim now cnt x r w)(ho:jR K w w')(hK:lg w K ts)(hts:∀ t∈ts,t∉Ug):qw I n lim now cnt x r w':=by
 obtain⟨a,lO,b⟩:=h;exact⟨a,lO,b.ty ho hK hts⟩
theorem Ri.ty (h:Ri I n lim now cnt x i r w)(ho:jR K w w')(hK:lg w K ts)(hts:∀ t∈ts,t∉Ug):Ri I n lim now cnt x i r w':=by
 obtain⟨a,lO,b,c⟩:=h;exact⟨a,lO,b,c.ty ho hK hts⟩
def V2 (I:nY)(n lim now cnt:Int)(x:Nm)(r:lZ)(w:World)(rv:Value):Prop:=rv=.slice none 0 0/\qw I n lim now cnt x r w
def V3 (I:nY)(n lim now cnt:Int)(x:Nm)(i:Nat)(r:lZ)(w:World)(rv:Value):Prop:=rv=.slice none 0 0/\Ri I n lim now cnt x i r w
def V4 (B:Nat)(I:nY)(n lim now cnt:Int)(x:Nm)(i:Nat)(r:lZ)(r0:Rc)(w:World)(rv:Value):Prop:=
 (∃ b c,rv=.slice (some ⟨b,0,none⟩) 1 c/\b≠I.sr/\w.ownsRow I.hi 41 4 (.slice (some ⟨b,0,none⟩) 1 c) 1 (nH [r0]))/\Ri I n lim now cnt x i r w
def V6 (I:nY)(n lim now cnt:Int)(x:Nm)(i:Nat)(r:lZ)(w:World)(rv:Value):Prop:=Ri I n lim now cnt x i r w
def V7 (I:nY)(n lim now cnt:Int)(x:Nm)(r:lZ)(w:World)(rv:Value):Prop:=qw I n lim now cnt x r w
theorem VS:FM (V2 I n lim now cnt x r):=fun w w' K rv h ho hK=>⟨h.1,h.2.ty ho hK (by decide)⟩
theorem VR:FM (V3 I n lim now cnt x i r):=fun w w' K rv h ho hK=>⟨h.1,h.2.ty ho hK (by decide)⟩
theorem EJ:FM (V4 B I n lim now cnt x i r r0):=fun w w' K rv h ho hK=>by
 obtain⟨⟨b,c,h1,h2,h3⟩,h4⟩:=h;exact⟨⟨b,c,h1,h2,rY h3 ho hK (by decide)⟩,h4.ty ho hK (by decide)⟩
theorem OE:FM (V6 I n lim now cnt x i r):=fun w w' K rv h ho hK=>Ri.ty h ho hK (by decide)
theorem Iq:FM (V7 I n lim now cnt x r):=fun w w' K rv h ho hK=>qw.ty h ho hK (by decide)
theorem Jv {t:ByteArray}{o:Int}{nm:List UInt8}{k0:Nat}{x:Nm}(htb:Bi I B k.V w)(hn:(str nm).size<=1000000)(hmk:Gm.make I.T [str nm]=([(x,k0)],Rs.fine))(tick:Int)(h:CJ B I L i k xs t st w)(hL:L.length<=64)(hxs:xs.length<=100)(hsh:qw I n lim now cnt (x) r w)(hop:(o==0)=false)
  (hq:Rq.parse (lst t)=⟨o,ttl,[nm],0⟩) :
  Calls Tryz.prog 48 #[.pointer (some ⟨I.d,0,none⟩),.int .i64 (i:Int),.int .i64 tick] w fun e w'=>e=.returned (.bool true)/\Mid B I L i k xs (x) o ttl 2 (V2 I n lim now cnt (x) r) Rs.zero (-1) Rs.zero st w'/\Past I B w w':=by
 obtain⟨oA,oc,begun,hb,hm⟩:=h.ex;obtain⟨B0,hB0,hB1⟩:=htb.tab;refine (agb (op':=o) (rO:=ttl) (vX:=2) (p':=Rs.zero) (x:=x) (V':=V2 I n lim now cnt (x) r) tick 1 hb rfl rfl hm hL hxs rfl (.inl rfl) hop VS ?_).mono ?_
 ·refine (VP (w:=w.drew) I.s hm hq hB0.drew hB1 hn hmk).mono ?_;rintro e w' ⟨q,c,rfl,hm',hr',ho⟩;refine⟨rfl,[],[],q,c,.slice none 0 0,ho,by simp,lg.nil,by simp,hm',xY hr' hb.fx.sz,rfl,?_⟩;exact (hsh.ty (((jR.refl [k.m] w).drew).trans ho) (lg.one hm.bk) (by decide))
 ·rintro e w' ⟨rfl,b,hpast⟩;rw[ah (by decide),ah (by decide)] at b;exact⟨rfl,b,hpast⟩
theorem ML (tick:Int)(h:Mid B I L i k xs x op ttl 2 (V2 I n lim now cnt x r) p ans kP st w)(hL:L.length<=64)(hxs:xs.length<=100)(hi:i<64)(hop:(op==0)=false)(hk:x.k.size<=1000000) :
  Calls Tryz.prog 48 #[.pointer (some ⟨I.d,0,none⟩),.int .i64 (i:Int),.int .i64 tick] w fun e w'=>e=.returned (.bool true)/\Mid B I L i k xs x op ttl 3 (V3 I n lim now cnt x i r) p ans kP st w'/\Past I B w w':=by
 refine (wP (vX:=3) (p':=p) (V':=V3 I n lim now cnt x i r) tick 1 h hL hxs rfl (.inl rfl) hop VS VR ?_).mono ?_
 ·rintro w q cq rv tx hm ⟨rfl,hne,lO,hs⟩ hn hB;refine (X7 hm hs.s hs.l (Rd.kX hn) hk (by omega) (by omega)).mono ?_;rintro e w' ⟨rfl,hm',hl',ho⟩;have hK:lg w [I.lk,I.ls,I.lo] [207,225,3]:=.cons hs.l.k (by decide) (.cons hs.l.s (by decide) (.cons hs.l.o (by decide) .nil));have hK2:lg w [k.m,I.lk,I.ls,I.lo] [156,207,225,3]:=.cons hm.bk (by decide) (hK.mono (by decide));refine⟨rfl,[I.lk,I.ls,I.lo],_,_,ho,by simp only[aN,aZ,dw];rintro g (rfl | rfl | rfl)<;>exact h.lo _ (by simp),hK,by decide,hm',rfl,hne,_,gy (by rw[hs.l.no];exact yj _ _ (by omega)),⟨hs.s.jS ho (hK2.no hs.s.bk (by decide)),hl',hs.t.jS ho (hK2.no hs.t.k (by decide)) ?_ (hK2.no hs.t.r (by decide)),fun a ha=>(hs.kp a ha).jS ho (hK2.no (hs.kp a ha) (by decide))⟩⟩;simp only[aN,aZ,dw,not_or];exact⟨Bk.ne hs.t.s hm.bk (by decide),Bk.ne hs.t.s hs.l.k (by decide),hne.symm,Bk.ne hs.t.s hs.l.o (by decide)⟩
 ·rintro e w' ⟨rfl,b,hpast⟩;rw[ah (by decide),ah (by decide)] at b;exact⟨rfl,b,hpast⟩
theorem MK (hro:r.ok)(tick:Int)(h:Mid B I L i k xs x op ttl 3 (V3 I n lim now cnt x i r) p ans kP st w)(hL:L.length<=64)(hxs:xs.length<=100)(hi:i<64)(hop:(op==0)=false)(hk:x.k.size<=1000000) :
  Calls Tryz.prog 48 #[.pointer (some ⟨I.d,0,none⟩),.int .i64 (i:Int),.int .i64 tick] w fun e w'=>e=.returned (.bool true)/\Mid B I L i k xs x op ttl 4 (V4 B I n lim now cnt x i r (r.get x)) p ans kP st w'/\Past I B w w':=by
 refine (wP (vX:=4) (p':=p) (V':=V4 B I n lim now cnt x i r (r.get x)) tick 1 h hL hxs rfl (.inl rfl) hop VR EJ ?_).mono ?_
 ·rintro w q cq rv tx hm ⟨rfl,hne,lO,hlo,hs⟩ hn hB;obtain⟨z,hz,hfree⟩:=hro.1.free;refine (X6 hm hs.s hs.t (agv x r) (lZ.lt hro x) z hz hfree hk (Rd.kX hn)).mono ?_;rintro e w' ⟨b,c,rfl,hm',hr',ho⟩;refine⟨rfl,[],[],_,ho,by simp,lg.nil,by simp,hm',⟨b,c,rfl,?_,xY hr' hB⟩,hne,lO,hlo,hs.ty ho (lg.one hm.bk) (by decide)⟩;have h1:=(own_base hr').1;have h2:=Bk.lt hs.t.r;omega
 ·rintro e w' ⟨rfl,b,hpast⟩;rw[ah (by decide),ah (by decide)] at b;exact⟨rfl,b,hpast⟩
theorem agC {lS:List kU}{lO:List Int}{lu:Nat}{sS:List kU}{sR:List Rc}{su:Nat}{cs:Array Value}{cnt':Int}(hs:Sh w I n lim now cnt lS lO lu sS sR su)(hm:Bk w k.m 156 cs)(hs':mJ w' I.s n lim now cnt' I.lk I.st)(ho:jR [k.m,I.s] w w'):Sh w' I n lim now cnt' lS lO lu sS sR su:=by
 have hK:lg w [k.m,I.s] [156,165]:=.cons hm (by decide) (.cons hs.s.bk (by decide) .nil);exact⟨hs',hs.l.ty ho hK (by decide) (by decide) (by decide),hs.t.ty ho hK (by decide) (by decide) (by decide),fun a ha=>(hs.kp a ha).jS ho (hK.no (hs.kp a ha) (by decide))⟩
theorem YD (tick:Int)(h:Mid B I L i k xs x 1 ttl 4 (V4 B I n lim now cnt x i r r0) p ans kP st w)(hL:L.length<=64)(hxs:xs.length<=100)(hlv:r0.live now=true)(t1:1<=ttl)(t2:now+ttl<=1073741824)(hst:r0.st=0\/r0.st=1)(h0:0<=now)(hcnt:0<=cnt/\cnt<=1000) :
  Calls Tryz.prog 48 #[.pointer (some ⟨I.d,0,none⟩),.int .i64 (i:Int),.int .i64 tick] w fun e w'=>e=.returned (.bool true)/\Mid B I L i k xs x 1 ttl 6 (V6 I n lim now cnt x i r) ⟨24,0,x.a,Rc.none,now⟩ ans ⟨24,0,x.a,Rc.none,now⟩ st w'/\Past I B w w':=by
 refine (wP (vX:=6) (p':=⟨24,0,x.a,Rc.none,now⟩) (V':=V6 I n lim now cnt x i r) tick 3 h hL hxs rfl (.inr (.inl rfl)) rfl EJ OE ?_).mono ?_
 ·rintro w q cq rv tx hm ⟨⟨b,c,rfl,hbs,hrow⟩,hne,lO,hlo,hs⟩ hn hB;refine (X9 hlv t1 t2 hm hs.s (Rd.kX hn) (Rd.kX hrow) (ag _) hst h0 hcnt).mono ?_;rintro e w' ⟨rfl,hm',hs',ho⟩;exact⟨rfl,[I.s],[165],_,ho,by simp only[aB];rintro g rfl;exact h.lo _ (by simp),lg.one hs.s.bk,by decide,hm',hne,lO,hlo,agC hs hm.bk hs' ho⟩
 ·rintro e w' ⟨rfl,b,hpast⟩;rw[ah (by decide),aj (by decide)] at b;exact⟨rfl,b,hpast⟩
theorem YC {gr:Int}(tick:Int)(h:Mid B I L i k xs x 1 ttl 4 (V4 B I n lim now cnt x i r r0) p ans kP st w)(hL:L.length<=64)(hxs:xs.length<=100)(hlv:r0.live now=false)(t1:1<=ttl)(t2:now+ttl<=1073741824)(hgr:1-r0.st=gr)(hcap:(gr=1/\cnt<lim)\/gr=0)(hst:r0.st=0\/r0.st=1)(h0:0<=now)(hcnt:0<=cnt/\cnt<=1000) :
  Calls Tryz.prog 48 #[.pointer (some ⟨I.d,0,none⟩),.int .i64 (i:Int),.int .i64 tick] w fun e w'=>e=.returned (.bool true)/\Mid B I L i k xs x 1 ttl 5 (V4 B I n lim now (cnt+gr) x i r ⟨1,(i:Int),x.a,now+ttl⟩) ⟨0,-1,ByteArray.empty,Rc.none,now⟩ ans ⟨0,-1,ByteArray.empty,Rc.none,now⟩ st w'/\Past I B w w':=by
 refine (wP (vX:=5) (p':=⟨0,-1,ByteArray.empty,Rc.none,now⟩) (V':=V4 B I n lim now (cnt+gr) x i r ⟨1,(i:Int),x.a,now+ttl⟩) tick 3 h hL hxs rfl (.inr (.inl rfl)) rfl EJ EJ ?_).mono ?_
 ·rintro w q cq rv tx hm ⟨⟨b,c,rfl,hbs,hrow⟩,hne,lO,hlo,hs⟩ hn hB;obtain⟨cb,hbk⟩:=kV hrow b (by simp[jT]);refine (X8 (by simp;exact⟨Bk.ne hbk hm.bk (by decide),Bk.ne hbk hs.s.bk (by decide)⟩) hlv t1 t2 hgr hcap hm hs.s (Rd.kX hn) (Rd.kX hrow) (ag _) hst h0 hcnt).mono ?_;rintro e w' ⟨A2,c2,rfl,hm',hs',hr',ho⟩;obtain⟨g2,rfl⟩:=DT hr' (by omega);refine⟨rfl,[I.s],[165],_,ho,by simp only[aB];rintro g rfl;exact h.lo _ (by simp),lg.one hs.s.bk,by decide,hm',⟨g2,c2,rfl,?_,xY hr' hB⟩,hne,lO,hlo,agC hs hm.bk hs' ho⟩;have h1:=(own_base hr').1;have h2:=Bk.lt hs.t.r;omega
 ·rintro e w' ⟨rfl,b,hpast⟩;rw[ah (by decide),aj (by decide)] at b;exact⟨rfl,b,hpast⟩
theorem Wx (hro:r.ok)(hU:r.U<=11)(tick:Int)(h:Mid B I L i k xs x op ttl 5 (V4 B I n lim now cnt x i r r0) p ans kP st w)(hL:L.length<=64)(hxs:xs.length<=100)(hop:(op==0)=false)(hk:x.k.size<=1000000)(hr0:r0.Fe) :
  Calls Tryz.prog 48 #[.pointer (some ⟨I.d,0,none⟩),.int .i64 (i:Int),.int .i64 tick] w fun e w'=>e=.returned (.bool true)/\Mid B I L i k xs x op ttl 6 (V6 I n lim now cnt x i (r.put x r0)) p ans kP st w'/\Past I B w w':=by
 refine (wP (vX:=6) (p':=p) (V':=V6 I n lim now cnt x i (r.put x r0)) tick 1 h hL hxs rfl (.inl rfl) hop EJ OE ?_).mono ?_
 ·rintro w q cq rv tx hm ⟨⟨b,c,rfl,hbs,hrow⟩,hne,lO,hlo,hs⟩ hn hB;obtain⟨cb,hbk⟩:=kV hrow b (by simp[jT]);refine (VN hm hs.s hs.t (fun w' h'=>agu x r hro hU r0 hr0 hk _ _ _ w' h') (Rd.kX hn) (Rd.kX hrow) (ag _) (by simp;exact⟨Bk.ne hbk hs.t.k (by decide),Bk.ne hbk hs.t.s (by decide),hbs⟩)).mono ?_;rintro e w' ⟨rfl,hm',ht',ho⟩;have hK:lg w [I.st,I.ss,I.sr] [209,225,41]:=.cons hs.t.k (by decide) (.cons hs.t.s (by decide) (.cons hs.t.r (by decide) .nil));have hK2:lg w [k.m,I.st,I.ss,I.sr] [156,209,225,41]:=.cons hm.bk (by decide) (hK.mono (by decide));refine⟨rfl,[I.st,I.ss,I.sr],_,_,ho,by simp only[aN,aZ,dw];rintro g (rfl | rfl | rfl)<;>exact h.lo _ (by simp),hK,by decide,hm',hne,lO,hlo,⟨hs.s.jS ho (hK2.no hs.s.bk (by decide)),hs.l.jS ho (hK2.no hs.l.k (by decide)) ?_ (hK2.no hs.l.o (by decide)),ht',fun a ha=>(hs.kp a ha).jS ho (hK2.no (hs.kp a ha) (by decide))⟩⟩;simp only[aN,aZ,dw,not_or];exact⟨Bk.ne hs.l.s hm.bk (by decide),Bk.ne hs.l.s hs.t.k (by decide),hne,Bk.ne hs.l.s hs.t.r (by decide)⟩
 ·rintro e w' ⟨rfl,b,hpast⟩;rw[ah (by decide),ah (by decide)] at b;exact⟨rfl,b,hpast⟩
theorem MM (tick:Int)(h:Mid B I L i k xs x op ttl 6 (V6 I n lim now cnt x i r) p ans kP st w)(hL:L.length<=64)(hxs:xs.length<=100)(hi:i<64)(hop:(op==0)=false)(hk:x.k.size<=1000000) :
  Calls Tryz.prog 48 #[.pointer (some ⟨I.d,0,none⟩),.int .i64 (i:Int),.int .i64 tick] w fun e w'=>e=.returned (.bool true)/\Mid B I L i k xs x op ttl 7 (V7 I n lim now cnt x r) p ans kP st w'/\Past I B w w':=by
 refine (wP (vX:=7) (p':=p) (V':=V7 I n lim now cnt x r) tick 1 h hL hxs rfl (.inl rfl) hop OE Iq ?_).mono ?_
 ·rintro w q cq rv tx hm ⟨hne,lO,hlo,hs⟩ hn hB;refine (X_ hm hs.s hs.l hlo (Rd.kX hn) hk (by omega) (by omega)).mono ?_;rintro e w' ⟨rfl,hm',hl',ho⟩;have hK:lg w [I.lk,I.ls,I.lo] [207,225,3]:=.cons hs.l.k (by decide) (.cons hs.l.s (by decide) (.cons hs.l.o (by decide) .nil));have hK2:lg w [k.m,I.lk,I.ls,I.lo] [156,207,225,3]:=.cons hm.bk (by decide) (hK.mono (by decide));refine⟨rfl,[I.lk,I.ls,I.lo],_,_,ho,by simp only[aN,aZ,dw];rintro g (rfl | rfl | rfl)<;>exact h.lo _ (by simp),hK,by decide,hm',hne,lO,⟨hs.s.jS ho (hK2.no hs.s.bk (by decide)),hl',hs.t.jS ho (hK2.no hs.t.k (by decide)) ?_ (hK2.no hs.t.r (by decide)),fun a ha=>(hs.kp a ha).jS ho (hK2.no (hs.kp a ha) (by decide))⟩⟩;simp only[aN,aZ,dw,not_or];exact⟨Bk.ne hs.t.s hm.bk (by decide),Bk.ne hs.t.s hs.l.k (by decide),hne.symm,Bk.ne hs.t.s hs.l.o (by decide)⟩
 ·rintro e w' ⟨rfl,b,hpast⟩;rw[ah (by decide),ah (by decide)] at b;exact⟨rfl,b,hpast⟩
theorem Ju (tick:Int)(h:Mid B I L i k xs x op ttl 7 (V7 I n lim now cnt x r) p ans kP st w)(hL:L.length<=64)(hxs:xs.length<=100)(hop:(op==0)=false) :
  Calls Tryz.prog 48 #[.pointer (some ⟨I.d,0,none⟩),.int .i64 (i:Int),.int .i64 tick] w fun e w'=>e=.returned (.bool true)/\Mid B I L i k xs x op ttl 0 (V7 I n lim now cnt x r) p tick kP st w'/\Past I B w w':=by
 refine (wP (vX:=0) (p':=p) (V':=V7 I n lim now cnt x r) tick 4 h hL hxs rfl (.inr (.inr rfl)) hop Iq Iq ?_).mono ?_
 ·rintro w q cq rv tx hm hs hn hB;refine (VO hm I.s).mono ?_;rintro e w' ⟨rfl,hm',ho⟩;exact⟨rfl,[],[],_,ho,by simp,lg.nil,by simp,hm',qw.ty hs ho (lg.one hm.bk) (by decide)⟩
 ·rintro e w' ⟨rfl,b,hpast⟩;rw[aj rfl,ah (by decide)] at b;exact⟨rfl,b,hpast⟩
end
end Go.Proofs.YtkachcflifhgiaaGreatDoor
