/-        -/
import Derived.Test.YtkachcflifhgiaaGreatDoorM24
import Derived.Deep.RegionHeld3
set_option linter.unusedVariables false
set_option maxRecDepth 100000
set_option maxHeartbeats 16000000
namespace Go.Proofs.YtkachcflifhgiaaGreatDoor
open Go Go.RowKit Go.Shelf
variable {Vt:TV}
theorem EO {w:World}{g:Nat}(h:Bk w g 43 uz):w.cell? ⟨g,0,none⟩=some (.int .i64 0)/\w.frozen? ⟨g,0,none⟩=false/\w.cell? ⟨g,1,none⟩=some (.int .i64 0)/\w.frozen? ⟨g,1,none⟩=false/\w.cell? ⟨g,2,none⟩=some (.string ⟨#[]⟩)/\w.frozen? ⟨g,2,none⟩=false/\w.cell? ⟨g,3,none⟩=some (.int .i64 0)/\w.frozen? ⟨g,3,none⟩=false/\w.cell? ⟨g,4,none⟩=some (.int .i64 0)/\w.frozen? ⟨g,4,none⟩=false/\w.cell? ⟨g,5,none⟩=some (.string ⟨#[]⟩)/\w.frozen? ⟨g,5,none⟩=false/\w.cell? ⟨g,6,none⟩=some (.int .i64 0)/\w.frozen? ⟨g,6,none⟩=false/\w.cell? ⟨g,7,none⟩=some (.int .i64 0)/\w.frozen? ⟨g,7,none⟩=false:=
 ⟨h.cell 0,h.frozen 0,h.cell 1,h.frozen 1,h.cell 2,h.frozen 2,h.cell 3,h.frozen 3,h.cell 4,h.frozen 4,h.cell 5,h.frozen 5,h.cell 6,h.frozen 6,h.cell 7,h.frozen 7⟩
@[reducible] def zH (Vt:TV)(w:World)(g b:Nat)(v:Value):Prop:=w.cell? ⟨g,0,none⟩=some (.slice Vt.cat.A Vt.cat.n Vt.cat.c)/\w.cell? ⟨g,1,none⟩=some (.slice Vt.cls.A Vt.cls.n Vt.cls.c)/\w.cell? ⟨g,2,none⟩=some (.slice Vt.ku.A Vt.ku.n Vt.ku.c)/\w.cell? ⟨g,3,none⟩=some (.slice Vt.jX.A Vt.jX.n Vt.jX.c)/\w.cell? ⟨g,4,none⟩=some (.slice Vt.scr.A Vt.scr.n Vt.scr.c)/\w.cell? ⟨g,5,none⟩=some (.slice Vt.jU.A Vt.jU.n Vt.jU.c)/\w.cell? ⟨g,6,none⟩=some (.slice Vt.jW.A Vt.jW.n Vt.jW.c)/\w.cell? ⟨g,7,none⟩=some (.slice Vt.ext.A Vt.ext.n Vt.ext.c)/\w.cell? ⟨g,8,none⟩=some (.slice Vt.maps.A Vt.maps.n Vt.maps.c)/\w.cell? ⟨g,9,none⟩=some (.slice Vt.dec.A Vt.dec.n Vt.dec.c)/\w.cell? ⟨g,10,none⟩=some (.slice Vt.exc.A Vt.exc.n Vt.exc.c)/\w.cell? ⟨g,11,none⟩=some (.slice Vt.jY.A Vt.jY.n Vt.jY.c)/\w.cell? ⟨b,2,none⟩=some v
theorem zH.same {w w':World}{g b:Nat}{v:Value}(h:zH Vt w g b v)(hg:∀ i:Nat,w'.cell? ⟨g,i,none⟩=w.cell? ⟨g,i,none⟩)(hb:∀ i:Nat,w'.cell? ⟨b,i,none⟩=w.cell? ⟨b,i,none⟩):zH Vt w' g b v:=by
 obtain⟨h0,h1,h2,h3,h4,h5,h6,h7,h8,h9,h10,h11,h12⟩:=h;exact⟨(hg 0).trans h0,(hg 1).trans h1,(hg 2).trans h2,(hg 3).trans h3,(hg 4).trans h4,(hg 5).trans h5,(hg 6).trans h6,(hg 7).trans h7,(hg 8).trans h8,(hg 9).trans h9,(hg 10).trans h10,(hg 11).trans h11,(hb 2).trans h12⟩
theorem zH.alloc {w:World}{g b:Nat}{v:Value}(h:zH Vt w g b v)(hg:g<w.heap.size)(hb:b<w.heap.size)(o:Obj):zH Vt (w.alloc o) g b v:=
 h.same (fun i=>dD w o ⟨g,i,none⟩ hg) (fun i=>dD w o ⟨b,i,none⟩ hb)
theorem zH.far {w:World}{g b:Nat}{v:Value}(h:zH Vt w g b v){p:Addr}(hg:g≠p.block)(hb:b≠p.block)(u:Value):zH Vt (w.setCell p u) g b v:=
 h.same (fun i=>bQ w p ⟨g,i,none⟩ u (fun e=>hg (aV Addr.block e).symm)) (fun i=>bQ w p ⟨b,i,none⟩ u (fun e=>hb (aV Addr.block e).symm))
theorem zH.Ba {w:World}{g b z:Nat}{v:Value}(h:zH Vt w g b v)(hg:g≠z)(hb:b≠z)(v0 v1 v2 v3 v4 v5 v6 v7:Value):zH Vt ((((((((w.setCell ⟨z,0,none⟩ v0).setCell ⟨z,1,none⟩ v1).setCell ⟨z,2,none⟩ v2).setCell ⟨z,3,none⟩ v3).setCell ⟨z,4,none⟩ v4).setCell ⟨z,5,none⟩ v5).setCell ⟨z,6,none⟩ v6).setCell ⟨z,7,none⟩ v7) g b v:=
 (((((((h.far (p:=⟨z,0,none⟩) hg hb v0).far (p:=⟨z,1,none⟩) hg hb v1).far (p:=⟨z,2,none⟩) hg hb v2).far (p:=⟨z,3,none⟩) hg hb v3).far (p:=⟨z,4,none⟩) hg hb v4).far (p:=⟨z,5,none⟩) hg hb v5).far (p:=⟨z,6,none⟩) hg hb v6).far (p:=⟨z,7,none⟩) hg hb v7
theorem uG {w w':World}{base:Nat}{e:TypeId}{size n:Nat}{v:Value}{xs:List Value}{S:List Nat}(h:w.ownsRow base e size v n xs)(ho:jR S w w')(hS:∀ i∈S,i<base):w'.ownsRow base e size v n xs:=by
 refine⟨h.1,?_⟩;rcases h.2 with h2 | ⟨g,cap,cur,h1,h2,h3,h4⟩
 ·exact .inl h2
 ·exact .inr ⟨g,cap,cur,h1,h2,ho.heap h3 (fun hm=>by have:=hS g hm;omega),h4⟩
theorem Bk.Ba {w:World}{g z:Nat}{T:TypeId}{cs:Array Value}(h:Bk w g T cs)(hg:g≠z)(v0 v1 v2 v3 v4 v5 v6 v7:Value):Bk ((((((((w.setCell ⟨z,0,none⟩ v0).setCell ⟨z,1,none⟩ v1).setCell ⟨z,2,none⟩ v2).setCell ⟨z,3,none⟩ v3).setCell ⟨z,4,none⟩ v4).setCell ⟨z,5,none⟩ v5).setCell ⟨z,6,none⟩ v6).setCell ⟨z,7,none⟩ v7) g T cs:=
 (((((((h.far (p:=⟨z,0,none⟩) hg v0).far (p:=⟨z,1,none⟩) hg v1).far (p:=⟨z,2,none⟩) hg v2).far (p:=⟨z,3,none⟩) hg v3).far (p:=⟨z,4,none⟩) hg v4).far (p:=⟨z,5,none⟩) hg v5).far (p:=⟨z,6,none⟩) hg v6).far (p:=⟨z,7,none⟩) hg v7
theorem jR.VV {S:List Nat}{W w:World}{z:Nat}(h:jR S W w)(hz:W.heap.size<=z)(v0 v1 v2 v3 v4 v5 v6 v7:Value):jR S W ((((((((w.setCell ⟨z,0,none⟩ v0).setCell ⟨z,1,none⟩ v1).setCell ⟨z,2,none⟩ v2).setCell ⟨z,3,none⟩ v3).setCell ⟨z,4,none⟩ v4).setCell ⟨z,5,none⟩ v5).setCell ⟨z,6,none⟩ v6).setCell ⟨z,7,none⟩ v7):=
 (((((((h.setCell (p:=⟨z,0,none⟩) (.inr hz) v0).setCell (p:=⟨z,1,none⟩) (.inr hz) v1).setCell (p:=⟨z,2,none⟩) (.inr hz) v2).setCell (p:=⟨z,3,none⟩) (.inr hz) v3).setCell (p:=⟨z,4,none⟩) (.inr hz) v4).setCell (p:=⟨z,5,none⟩) (.inr hz) v5).setCell (p:=⟨z,6,none⟩) (.inr hz) v6).setCell (p:=⟨z,7,none⟩) (.inr hz) v7
section
variable {g:Nat} {cl ph:Int} {tx:ByteArray} {op ttl:Int} {nv:Value} {at_:Int} {rv:Value} {p:Rs} {w:World}
theorem YP {o t:Int}{nm:List UInt8}(h:kC Vt w g cl ph tx op ttl nv at_ rv p)(hq:Rq.parse (lst tx)=⟨o,t,[nm],0⟩){T:Gm.Tab}{B k0:Nat}{x:Nm}(htb:j_ w B Vt T)(hB:B<=w.heap.size)(hn:(str nm).size<=1000000)(hmk:Gm.make T [str nm]=([(x,k0)],Rs.fine)) :
  Calls Tryz.prog 161 #[.pointer (some ⟨g,0,none⟩)] w fun e w'=>∃ q c,e=.returned (.int .i64 1)/\kC Vt w' g cl 2 tx o t (.slice (some ⟨q,0,none⟩) 1 c) 0 rv p /\
   w'.ownsRow w.heap.size 30 3 (.slice (some ⟨q,0,none⟩) 1 c) 1 (lq [x])/\jR [g] w w':=by
 have c1:=h.ctx;have HP:=jP (parse_any tx w);have wB:=jP h;have HT0:=jP htb;have tY:=jP hB;rw[hq] at HP;clear h htb hB;go_enter Tryz.func161,Tryz.ntmps161
 go_wp2_with fail
 clear c1;refine HP.1.mono ?_;rintro e w1 ⟨A,n,c,rfl,hl,ho,hb⟩;simp at hl;subst hl;have zM:=jP (wB.1.below hb wB.1.lt);have HO:=jP (Rd.kX (by simpa using ho));have HB:=jP (jR.below (S:=[g]) hb (ag _));have HB1:=jP hb;have HT1:=jP (HT0.1.below (hb.mono tY.1));have Gg:=jP (aK tY.1 hb.size);clear hb ho HP;have hx:=jP (Bk.new w1 71 #[.int .i64 o,.int .i64 t,.slice A 1 c]);have HA:=jP ((ai w1.heap.size w1).alloc (ag _) (.cells #[.int .i64 o,.int .i64 t,.slice A 1 c] 71));simp only[Yr];go_upto_region 6 with (fail)
 generalize hw2:w1.alloc (.cells #[.int .i64 o,.int .i64 t,.slice A 1 c] 71)=w2 at *;have oN:=jP (zM.1.below HA.1 zM.1.lt);have lG:=jP ((HO.1.below HA.1).more HA.1.size);have HB2:=jP (HB.1.trans (jR.below (S:=[g]) HA.1 (ag _)));have HS2:=jP (show w2.cell? ⟨g,0,none⟩=some (.slice Vt.cat.A Vt.cat.n Vt.cat.c)/\w2.cell? ⟨g,1,none⟩=some (.slice Vt.cls.A Vt.cls.n Vt.cls.c)/\w2.cell? ⟨g,2,none⟩=some (.slice Vt.ku.A Vt.ku.n Vt.ku.c)/\w2.cell? ⟨g,3,none⟩=some (.slice Vt.jX.A Vt.jX.n Vt.jX.c)/\w2.cell? ⟨g,4,none⟩=some (.slice Vt.scr.A Vt.scr.n Vt.scr.c)/\w2.cell? ⟨g,5,none⟩=some (.slice Vt.jU.A Vt.jU.n Vt.jU.c)/\w2.cell? ⟨g,6,none⟩=some (.slice Vt.jW.A Vt.jW.n Vt.jW.c)/\w2.cell? ⟨g,7,none⟩=some (.slice Vt.ext.A Vt.ext.n Vt.ext.c)/\w2.cell? ⟨g,8,none⟩=some (.slice Vt.maps.A Vt.maps.n Vt.maps.c)/\w2.cell? ⟨g,9,none⟩=some (.slice Vt.dec.A Vt.dec.n Vt.dec.c)/\w2.cell? ⟨g,10,none⟩=some (.slice Vt.exc.A Vt.exc.n Vt.exc.c)/\w2.cell? ⟨g,11,none⟩=some (.slice Vt.jY.A Vt.jY.n Vt.jY.c)/\w2.cell? ⟨w1.heap.size,2,none⟩=some (.slice A 1 c) from ⟨oN.1.t.1,oN.1.t.2.1,oN.1.t.2.2.1,oN.1.t.2.2.2.1,oN.1.t.2.2.2.2.1,oN.1.t.2.2.2.2.2.1,oN.1.t.2.2.2.2.2.2.1,oN.1.t.2.2.2.2.2.2.2.1,oN.1.t.2.2.2.2.2.2.2.2.1,oN.1.t.2.2.2.2.2.2.2.2.2.1,oN.1.t.2.2.2.2.2.2.2.2.2.2.1,oN.1.t.2.2.2.2.2.2.2.2.2.2.2,hx.1.cell 2⟩);obtain⟨x0,x1,x2,x3,x4,x5,x6,x7,x8,x9,x10,x11,x12⟩:=HS2.1;have hxl:=hx.1.lt;have hgl:=oN.1.lt;have HT2:=jP ((HT1.1.below (HA.1.mono Gg.1)).more (aK Gg.1 HA.1.size));clear zM HO HB;go_region_held3 (fun w'=>w'.cell? ⟨g,0,none⟩=some (.slice Vt.cat.A Vt.cat.n Vt.cat.c)/\w'.cell? ⟨g,1,none⟩=some (.slice Vt.cls.A Vt.cls.n Vt.cls.c)/\w'.cell? ⟨g,2,none⟩=some (.slice Vt.ku.A Vt.ku.n Vt.ku.c)/\w'.cell? ⟨g,3,none⟩=some (.slice Vt.jX.A Vt.jX.n Vt.jX.c)/\w'.cell? ⟨g,4,none⟩=some (.slice Vt.scr.A Vt.scr.n Vt.scr.c)/\w'.cell? ⟨g,5,none⟩=some (.slice Vt.jU.A Vt.jU.n Vt.jU.c)/\w'.cell? ⟨g,6,none⟩=some (.slice Vt.jW.A Vt.jW.n Vt.jW.c)/\w'.cell? ⟨g,7,none⟩=some (.slice Vt.ext.A Vt.ext.n Vt.ext.c)/\w'.cell? ⟨g,8,none⟩=some (.slice Vt.maps.A Vt.maps.n Vt.maps.c)/\w'.cell? ⟨g,9,none⟩=some (.slice Vt.dec.A Vt.dec.n Vt.dec.c)/\w'.cell? ⟨g,10,none⟩=some (.slice Vt.exc.A Vt.exc.n Vt.exc.c)/\w'.cell? ⟨g,11,none⟩=some (.slice Vt.jY.A Vt.jY.n Vt.jY.c)/\w'.cell? ⟨w1.heap.size,2,none⟩=some (.slice A 1 c))
  (first
   | with_reducible exact mg.1
   | with_reducible exact zH.alloc mg.1 (aG hgl hz3) (aG hxl hz3) _
   | with_reducible exact zH.Ba mg.1 (bY hgl) (bY hxl) _ _ _ _ _ _ _ _
   | go_keep
   | fail)
  (first
   | (go_at_call 23;refine (make_one HT2.1.drew (by simp) A c hn hmk lG.1.drew (by simp)).mono ?_;rintro e w3 ⟨q,c3,A2,c2,rfl,ho3,hb3⟩;simp only[show Rs.fine.arr=#[.int .i64 0,.int .i64 (-1),.string ⟨#[]⟩,.int .i64 0,.int .i64 0,.string ⟨#[]⟩,.int .i64 0,.int .i64 0] from rfl];have hz3:w2.heap.size<=w3.heap.size:=aK (by simp) hb3.size;have mg:=jP (zH.same (w:=w2) (w':=w3) ⟨x0,x1,x2,x3,x4,x5,x6,x7,x8,x9,x10,x11,x12⟩ (fun i=>hb3.cell (p:=⟨g,i,none⟩) (hgl)) (fun i=>hb3.cell (p:=⟨w1.heap.size,i,none⟩) (hxl))))
   | (go_at_call 23;refine (make_one ((HT2.1.below ((ai _ _).alloc (ag _) _)).drew) (by simp) A c hn hmk ((lG.1.alloc (ag _) _).drew) (by simp)).mono ?_;rintro e w3 ⟨q,c3,A2,c2,rfl,ho3,hb3⟩;simp only[show Rs.fine.arr=#[.int .i64 0,.int .i64 (-1),.string ⟨#[]⟩,.int .i64 0,.int .i64 0,.string ⟨#[]⟩,.int .i64 0,.int .i64 0] from rfl];have HB4:Bk w3 w2.heap.size 43 uz:=Bk.below (show Bk (w2.alloc (.cells uz 43)).drew _ _ _ from Bk.new w2 _ uz) hb3 (by simp);obtain⟨k0,Zc,k1,Zb,k2,Za,k3,Y_,k4,Y9,k5,Y8,k6,Y7,k7,Y6⟩:=EO HB4;have hz3:w2.heap.size<=w3.heap.size:=aK (by simp) hb3.size;have mg:=jP (zH.same (w:=w2) (w':=w3) ⟨x0,x1,x2,x3,x4,x5,x6,x7,x8,x9,x10,x11,x12⟩ (fun i=>(hb3.cell (p:=⟨g,i,none⟩) (aG hgl (by simp))).trans (dD w2 _ ⟨g,i,none⟩ hgl)) (fun i=>(hb3.cell (p:=⟨w1.heap.size,i,none⟩) (aG hxl (by simp))).trans (dD w2 _ ⟨w1.heap.size,i,none⟩ hxl)))))
 ·have HG:=jP (show g<w1.heap.size from aG wB.1.lt HB1.1.size);generalize hw4:w3.alloc (.cells #[.int .i64 0,.int .i64 (-1),.string ⟨#[]⟩,.int .i64 0,.int .i64 0,.string ⟨#[]⟩,.int .i64 0,.int .i64 0] 43)=w4;have hb4:Below w3.heap.size w3 w4:=hw4▸(ai _ _).alloc (ag _) _;have T1:=jP (show kC Vt w4 g cl ph tx op ttl nv at_ rv p from ((show kC Vt w2.drew g cl ph tx op ttl nv at_ rv p from oN.1).below hb3 hgl).below hb4 (aG hgl hz3));have T2:=jP (show Bk w4 w3.heap.size 43 #[.int .i64 0,.int .i64 (-1),.string ⟨#[]⟩,.int .i64 0,.int .i64 0,.string ⟨#[]⟩,.int .i64 0,.int .i64 0] from hw4▸Bk.new w3 _ _);have T3:=jP (show Bk w4 w1.heap.size 71 #[.int .i64 o,.int .i64 t,.slice A 1 c] from (Bk.below (show Bk w2.drew _ _ _ from hx.1) hb3 hxl).below hb4 (aG hxl hz3));have T4:=jP (show w4.ownsRow w.heap.size 30 3 (.slice (some ⟨q,0,none⟩) 1 c3) 1 (lq [x]) from t_ (kD ho3 hb4) (Nat.le_of_lt (iC HB1.1.size hxl)));have T5:=jP (show jR [g] w w4 from hw4▸((HB2.1.drew).trans (jR.below hb3 (ag _))).alloc _);clear hb4;clear hw4 oN lG HB2 HS2 x0 x1 x2 x3 x4 x5 x6 x7 x8 x9 x10 x11 x12 hb3 ho3 mg hz3 hx HA hw2;have hgb:g≠w1.heap.size:=bY HG.1;have z0:=T2.1.cell 0;go_wp2_with fail
  have y0:=T3.1.cell 0;have y1:=T3.1.cell 1;have m0:=T1.1.cop;have m1:=T1.1.QK;have m2:=T1.1.QU;have f0:=T1.1.fr 15;have f1:=T1.1.fr 16;have f2:=T1.1.fr 17;go_region
  have HE:=jP (((T1.1.sop o).agt t).snv (.slice (some ⟨q,0,none⟩) 1 c3));have lD:=jP (((T5.1.setCell (p:=⟨g,15,none⟩) (.inl (by simp)) (.int .i64 o)).setCell (p:=⟨g,16,none⟩) (.inl (by simp)) (.int .i64 t)).setCell (p:=⟨g,17,none⟩) (.inl (by simp)) (.slice (some ⟨q,0,none⟩) 1 c3));have v_:=jP (aQ (aQ (aQ T4.1 (a:=⟨g,15,none⟩) wB.1.lt (.int .i64 o)) (a:=⟨g,16,none⟩) wB.1.lt (.int .i64 t)) (a:=⟨g,17,none⟩) wB.1.lt (.slice (some ⟨q,0,none⟩) 1 c3));clear m0 m1 m2 f0 f1 f2 y0 y1 z0;generalize hw5:((w4.setCell ⟨g,15,none⟩ (.int .i64 o)).setCell ⟨g,16,none⟩ (.int .i64 t)).setCell ⟨g,17,none⟩ (.slice (some ⟨q,0,none⟩) 1 c3)=w5 at *;clear hw5;go_wp2_with fail
  refine (uf 2 (show kC Vt w5.drew g cl ph tx o t (.slice (some ⟨q,0,none⟩) 1 c3) at_ rv p from HE.1)).mono ?_;rintro e w6 ⟨rfl,zF,kT⟩;have yZ:=jP zF;have lI:=jP (lD.1.drew.trans kT);have Cf:=jP (uG (w:=w5.drew) v_.1 kT (by intro i hi;simp at hi;subst hi;exact wB.1.lt));clear zF kT;go_wp2_with fail
  go_ret
  exact⟨q,c3,rfl,yZ.1,Cf.1,lI.1⟩
 ·have HG:=jP (show g<w1.heap.size from aG wB.1.lt HB1.1.size);have hlt3:w2.heap.size<w3.heap.size:=HB4.lt;have hal:Below w2.heap.size w2 (w2.alloc (.cells uz 43)):=(ai _ _).alloc (ag _) _;generalize hw4:((((((((w3.setCell ⟨w2.heap.size,0,none⟩ (.int .i64 0)).setCell ⟨w2.heap.size,1,none⟩ (.int .i64 (-1))).setCell ⟨w2.heap.size,2,none⟩ (.string ⟨#[]⟩)).setCell ⟨w2.heap.size,3,none⟩ (.int .i64 0)).setCell ⟨w2.heap.size,4,none⟩ (.int .i64 0)).setCell ⟨w2.heap.size,5,none⟩ (.string ⟨#[]⟩)).setCell ⟨w2.heap.size,6,none⟩ (.int .i64 0)).setCell ⟨w2.heap.size,7,none⟩ (.int .i64 0))=w4;have T1:=jP (show kC Vt w4 g cl ph tx op ttl nv at_ rv p from hw4▸Bk.Ba ((show kC Vt (w2.alloc (.cells uz 43)).drew g cl ph tx op ttl nv at_ rv p from oN.1.below hal.drew hgl).below hb3 (aG hgl hal.size)) (bY hgl) _ _ _ _ _ _ _ _);have T2:=jP (show Bk w4 w2.heap.size 43 #[.int .i64 0,.int .i64 (-1),.string ⟨#[]⟩,.int .i64 0,.int .i64 0,.string ⟨#[]⟩,.int .i64 0,.int .i64 0] from hw4▸KO HB4 _ _ _ _ _ _ _ _);have T3:=jP (show Bk w4 w1.heap.size 71 #[.int .i64 o,.int .i64 t,.slice A 1 c] from hw4▸Bk.Ba (Bk.below (show Bk (w2.alloc (.cells uz 43)).drew _ _ _ from Bk.below hx.1 hal.drew hxl) hb3 (aG hxl hal.size)) (bY hxl) _ _ _ _ _ _ _ _);have T4:=jP (show w4.ownsRow w.heap.size 30 3 (.slice (some ⟨q,0,none⟩) 1 c3) 1 (lq [x]) from hw4▸t_ (Px ho3 (show w2.heap.size<(w2.alloc (.cells uz 43)).heap.size by simp) _ _ _ _ _ _ _ _) (aK (Nat.le_of_lt (iC HB1.1.size hxl)) hal.size));have T5:=jP (show jR [g] w w4 from hw4▸jR.VV ((HB2.1.trans ((jR.below hal (ag _)).drew)).trans (jR.below hb3 (ag _))) (Nat.le_of_lt (iC HB1.1.size hxl)) _ _ _ _ _ _ _ _);clear hal;clear hw4 oN lG HB2 HS2 x0 x1 x2 x3 x4 x5 x6 x7 x8 x9 x10 x11 x12 hb3 ho3 mg hz3 hx HA hw2 HB4 hlt3 k0 Zc k1 Zb k2 Za k3 Y_ k4 Y9 k5 Y8 k6 Y7 k7 Y6;have hgb:g≠w1.heap.size:=bY HG.1;have z0:=T2.1.cell 0;go_wp2_with fail
  have y0:=T3.1.cell 0;have y1:=T3.1.cell 1;have m0:=T1.1.cop;have m1:=T1.1.QK;have m2:=T1.1.QU;have f0:=T1.1.fr 15;have f1:=T1.1.fr 16;have f2:=T1.1.fr 17;go_region
  have HE:=jP (((T1.1.sop o).agt t).snv (.slice (some ⟨q,0,none⟩) 1 c3));have lD:=jP (((T5.1.setCell (p:=⟨g,15,none⟩) (.inl (by simp)) (.int .i64 o)).setCell (p:=⟨g,16,none⟩) (.inl (by simp)) (.int .i64 t)).setCell (p:=⟨g,17,none⟩) (.inl (by simp)) (.slice (some ⟨q,0,none⟩) 1 c3));have v_:=jP (aQ (aQ (aQ T4.1 (a:=⟨g,15,none⟩) wB.1.lt (.int .i64 o)) (a:=⟨g,16,none⟩) wB.1.lt (.int .i64 t)) (a:=⟨g,17,none⟩) wB.1.lt (.slice (some ⟨q,0,none⟩) 1 c3));clear m0 m1 m2 f0 f1 f2 y0 y1 z0;generalize hw5:((w4.setCell ⟨g,15,none⟩ (.int .i64 o)).setCell ⟨g,16,none⟩ (.int .i64 t)).setCell ⟨g,17,none⟩ (.slice (some ⟨q,0,none⟩) 1 c3)=w5 at *;clear hw5;go_wp2_with fail
  refine (uf 2 (show kC Vt w5.drew g cl ph tx o t (.slice (some ⟨q,0,none⟩) 1 c3) at_ rv p from HE.1)).mono ?_;rintro e w6 ⟨rfl,zF,kT⟩;have yZ:=jP zF;have lI:=jP (lD.1.drew.trans kT);have Cf:=jP (uG (w:=w5.drew) v_.1 kT (by intro i hi;simp at hi;subst hi;exact wB.1.lt));clear zF kT;go_wp2_with fail
  go_ret
  exact⟨q,c3,rfl,yZ.1,Cf.1,lI.1⟩
end
end Go.Proofs.YtkachcflifhgiaaGreatDoor
namespace Go.Proofs.YtkachcflifhgiaaGreatDoor
open Go Go.RowKit Go.Shelf
variable {Vt:TV}
@[reducible] def SD (w:World)(s g:Nat)(v0 v1 v2 v3 v4 v5 v6 v7 v8:Value):Prop:=w.cell? ⟨s,0,none⟩=some v0/\w.cell? ⟨s,1,none⟩=some v1/\w.cell? ⟨s,2,none⟩=some v2/\w.cell? ⟨s,3,none⟩=some v3/\w.cell? ⟨g,12,none⟩=some v4/\w.cell? ⟨g,15,none⟩=some v5/\w.cell? ⟨g,16,none⟩=some v6/\w.cell? ⟨g,17,none⟩=some v7/\w.cell? ⟨g,19,none⟩=some v8
section
variable {w w':World} {s g:Nat} {v0 v1 v2 v3 v4 v5 v6 v7 v8:Value}
theorem SD.same (h:SD w s g v0 v1 v2 v3 v4 v5 v6 v7 v8)(hs:∀ i:Nat,w'.cell? ⟨s,i,none⟩=w.cell? ⟨s,i,none⟩)(hg:∀ i:Nat,w'.cell? ⟨g,i,none⟩=w.cell? ⟨g,i,none⟩):SD w' s g v0 v1 v2 v3 v4 v5 v6 v7 v8:=by
 obtain⟨a0,a1,a2,a3,a4,a5,a6,a7,a8⟩:=h;exact⟨(hs 0).trans a0,(hs 1).trans a1,(hs 2).trans a2,(hs 3).trans a3,(hg 12).trans a4,(hg 15).trans a5,(hg 16).trans a6,(hg 17).trans a7,(hg 19).trans a8⟩
theorem SD.alloc (h:SD w s g v0 v1 v2 v3 v4 v5 v6 v7 v8)(hs:s<w.heap.size)(hg:g<w.heap.size)(o:Obj):SD (w.alloc o) s g v0 v1 v2 v3 v4 v5 v6 v7 v8:=
 h.same (fun i=>dD w o ⟨s,i,none⟩ hs) (fun i=>dD w o ⟨g,i,none⟩ hg)
theorem SD.far (h:SD w s g v0 v1 v2 v3 v4 v5 v6 v7 v8){p:Addr}(hs:s≠p.block)(hg:g≠p.block)(u:Value):SD (w.setCell p u) s g v0 v1 v2 v3 v4 v5 v6 v7 v8:=
 h.same (fun i=>bQ w p ⟨s,i,none⟩ u (fun e=>hs (aV Addr.block e).symm)) (fun i=>bQ w p ⟨g,i,none⟩ u (fun e=>hg (aV Addr.block e).symm))
theorem SD.Ba {z:Nat}(h:SD w s g v0 v1 v2 v3 v4 v5 v6 v7 v8)(hs:s≠z)(hg:g≠z)(u0 u1 u2 u3 u4 u5 u6 u7:Value):SD ((((((((w.setCell ⟨z,0,none⟩ u0).setCell ⟨z,1,none⟩ u1).setCell ⟨z,2,none⟩ u2).setCell ⟨z,3,none⟩ u3).setCell ⟨z,4,none⟩ u4).setCell ⟨z,5,none⟩ u5).setCell ⟨z,6,none⟩ u6).setCell ⟨z,7,none⟩ u7) s g v0 v1 v2 v3 v4 v5 v6 v7 v8:=
 (((((((h.far (p:=⟨z,0,none⟩) hs hg u0).far (p:=⟨z,1,none⟩) hs hg u1).far (p:=⟨z,2,none⟩) hs hg u2).far (p:=⟨z,3,none⟩) hs hg u3).far (p:=⟨z,4,none⟩) hs hg u4).far (p:=⟨z,5,none⟩) hs hg u5).far (p:=⟨z,6,none⟩) hs hg u6).far (p:=⟨z,7,none⟩) hs hg u7
end
theorem Bk.yB {w:World}{g z:Nat}{T:TypeId}{cs:Array Value}(o:Nat)(h:Bk w g T cs)(hg:g≠z)(v0 v1 v2 v3 v4 v5 v6 v7:Value):Bk ((((((((w.setCell ⟨z,o,none⟩ v0).setCell ⟨z,o+1,none⟩ v1).setCell ⟨z,o+2,none⟩ v2).setCell ⟨z,o+3,none⟩ v3).setCell ⟨z,o+4,none⟩ v4).setCell ⟨z,o+5,none⟩ v5).setCell ⟨z,o+6,none⟩ v6).setCell ⟨z,o+7,none⟩ v7) g T cs:=
 (((((((h.far (p:=⟨z,o,none⟩) hg v0).far (p:=⟨z,o+1,none⟩) hg v1).far (p:=⟨z,o+2,none⟩) hg v2).far (p:=⟨z,o+3,none⟩) hg v3).far (p:=⟨z,o+4,none⟩) hg v4).far (p:=⟨z,o+5,none⟩) hg v5).far (p:=⟨z,o+6,none⟩) hg v6).far (p:=⟨z,o+7,none⟩) hg v7
theorem yB {w:World}{s z lk st:Nat}{n lim now cnt:Int}(o:Nat)(h:mJ w s n lim now cnt lk st)(hg:s≠z)(v0 v1 v2 v3 v4 v5 v6 v7:Value):mJ ((((((((w.setCell ⟨z,o,none⟩ v0).setCell ⟨z,o+1,none⟩ v1).setCell ⟨z,o+2,none⟩ v2).setCell ⟨z,o+3,none⟩ v3).setCell ⟨z,o+4,none⟩ v4).setCell ⟨z,o+5,none⟩ v5).setCell ⟨z,o+6,none⟩ v6).setCell ⟨z,o+7,none⟩ v7) s n lim now cnt lk st:=Bk.yB o h hg v0 v1 v2 v3 v4 v5 v6 v7
theorem Oe {w:World}{base g:Nat}{e:TypeId}{size n:Nat}{v:Value}{xs:List Value}(o:Nat)(h:w.ownsRow base e size v n xs)(hg:g<base)(v0 v1 v2 v3 v4 v5 v6 v7:Value):((((((((w.setCell ⟨g,o,none⟩ v0).setCell ⟨g,o+1,none⟩ v1).setCell ⟨g,o+2,none⟩ v2).setCell ⟨g,o+3,none⟩ v3).setCell ⟨g,o+4,none⟩ v4).setCell ⟨g,o+5,none⟩ v5).setCell ⟨g,o+6,none⟩ v6).setCell ⟨g,o+7,none⟩ v7).ownsRow base e size v n xs:=
 aQ (aQ (aQ (aQ (aQ (aQ (aQ (aQ h (a:=⟨g,o,none⟩) hg v0) (a:=⟨g,o+1,none⟩) hg v1) (a:=⟨g,o+2,none⟩) hg v2) (a:=⟨g,o+3,none⟩) hg v3) (a:=⟨g,o+4,none⟩) hg v4) (a:=⟨g,o+5,none⟩) hg v5) (a:=⟨g,o+6,none⟩) hg v6) (a:=⟨g,o+7,none⟩) hg v7
theorem Jw {S:List Nat}{W w:World}{g:Nat}(o:Nat)(h:jR (g::S) W w)(v0 v1 v2 v3 v4 v5 v6 v7:Value):jR (g::S) W ((((((((w.setCell ⟨g,o,none⟩ v0).setCell ⟨g,o+1,none⟩ v1).setCell ⟨g,o+2,none⟩ v2).setCell ⟨g,o+3,none⟩ v3).setCell ⟨g,o+4,none⟩ v4).setCell ⟨g,o+5,none⟩ v5).setCell ⟨g,o+6,none⟩ v6).setCell ⟨g,o+7,none⟩ v7):=
 (((((((h.setCell (p:=⟨g,o,none⟩) (.inl (by simp)) v0).setCell (p:=⟨g,o+1,none⟩) (.inl (by simp)) v1).setCell (p:=⟨g,o+2,none⟩) (.inl (by simp)) v2).setCell (p:=⟨g,o+3,none⟩) (.inl (by simp)) v3).setCell (p:=⟨g,o+4,none⟩) (.inl (by simp)) v4).setCell (p:=⟨g,o+5,none⟩) (.inl (by simp)) v5).setCell (p:=⟨g,o+6,none⟩) (.inl (by simp)) v6).setCell (p:=⟨g,o+7,none⟩) (.inl (by simp)) v7
theorem PR {g s lk st q:Nat}{n lim now cnt:Int}{cl ph:Int}{tx:ByteArray}{ttl:Int}{cq cr:Nat}{Ar:Option Addr}{at_:Int}{p:Rs}{B:Nat}{x:Nm}{r:Rc}{w:World}(hlv:r.live now=true)(t1:1<=ttl)(t2:now+ttl<=1073741824)
  (h:kC Vt w g cl ph tx 1 ttl (.slice (some ⟨q,0,none⟩) 1 cq) at_ (.slice Ar 1 cr) p) (hs:mJ w s n lim now cnt lk st) (hgs:g≠s)
  (hn:Rd w B 3 (some ⟨q,0,none⟩) 1 (lq [x])) (hr:Rd w B 4 Ar 1 (nH [r])) (hB:B<=w.heap.size) (hst:r.st=0\/r.st=1) (h0:0<=now) (hcnt:0<=cnt/\cnt<=1000) :
  Calls Tryz.prog 165 #[.pointer (some ⟨g,0,none⟩),.pointer (some ⟨s,0,none⟩)] w fun e w'=>e=.returned (.int .i64 3)/\kC Vt w' g cl 6 tx 1 ttl (.slice (some ⟨q,0,none⟩) 1 cq) 0 (.slice Ar 1 cr) ⟨24,0,x.a,Rc.none,now⟩/\mJ w' s n lim now cnt lk st/\jR [g,s] w w':=by
 have HD:=jP (fun (w':World) (h1:Rd w' B 3 (some ⟨q,0,none⟩) 1 (lq [x])) (h2:Rd w' B 4 Ar 1 (nH [r])) (h3:B<=w'.heap.size)=>TI n lim cnt cl ttl now x r (some ⟨q,0,none⟩) Ar cq cr B w' h1 h2 h3 hst hlv h0 t1 t2);have HM:=jP h;have HS:=jP hs;have HN:=jP hn;have HR:=jP hr;have x0:=hs.c0;have x1:=hs.c1;have x2:=hs.c2;have x3:=hs.c3;have x4:=h.ccl;have x5:=h.cop;have x6:=h.QK;have x7:=h.QU;have x8:=h.Np;have hgl:=h.lt;have hsl:=hs.lt;clear h hs hn hr;go_enter Tryz.func165,Tryz.ntmps165
 go_upto_region 1 with (fail)
 go_region_held3 (fun w'=>w'.cell? ⟨s,0,none⟩=some (.int .i64 n)/\w'.cell? ⟨s,1,none⟩=some (.int .i64 lim)/\w'.cell? ⟨s,2,none⟩=some (.int .i64 now)/\w'.cell? ⟨s,3,none⟩=some (.int .i64 cnt)/\w'.cell? ⟨g,12,none⟩=some (.int .i64 cl)/\w'.cell? ⟨g,15,none⟩=some (.int .i64 1)/\w'.cell? ⟨g,16,none⟩=some (.int .i64 ttl)/\w'.cell? ⟨g,17,none⟩=some (.slice (some ⟨q,0,none⟩) 1 cq)/\w'.cell? ⟨g,19,none⟩=some (.slice Ar 1 cr))
  (first
   | with_reducible exact mg.1
   | with_reducible exact SD.alloc mg.1 (aG hsl hz3) (aG hgl hz3) _
   | with_reducible exact SD.Ba mg.1 (bY hsl) (bY hgl) _ _ _ _ _ _ _ _
   | go_keep
   | fail)
  (first
   | (go_at_call 223;refine (HD.1 _ HN.1.drew HR.1.drew hB).mono ?_;rintro e w3 ⟨A2,c2,rfl,ho3,hb3⟩;simp only[Rs.arr,Rc.none,show ByteArray.empty=⟨#[]⟩ from rfl];have hz3:w.heap.size<=w3.heap.size:=aK (by simp) hb3.size;have mg:=jP (SD.same (w:=w) (w':=w3) ⟨x0,x1,x2,x3,x4,x5,x6,x7,x8⟩ (fun i=>hb3.cell (p:=⟨s,i,none⟩) (aG hsl (by simp))) (fun i=>hb3.cell (p:=⟨g,i,none⟩) (aG hgl (by simp)))))
   | (go_at_call 223;refine (HD.1 _ ((HN.1.alloc hB _).drew) ((HR.1.alloc hB _).drew) (aK hB (by simp))).mono ?_;rintro e w3 ⟨A2,c2,rfl,ho3,hb3⟩;simp only[Rs.arr,Rc.none,show ByteArray.empty=⟨#[]⟩ from rfl];have hz3:w.heap.size<=w3.heap.size:=aK (by simp) hb3.size;have HB4:Bk w3 w.heap.size 43 uz:=Bk.below (show Bk (w.alloc (.cells uz 43)).drew _ _ _ from Bk.new w _ uz) hb3 (by simp);obtain⟨k0,Zc,k1,Zb,k2,Za,k3,Y_,k4,Y9,k5,Y8,k6,Y7,k7,Y6⟩:=EO HB4;have mg:=jP (SD.same (w:=w) (w':=w3) ⟨x0,x1,x2,x3,x4,x5,x6,x7,x8⟩ (fun i=>(hb3.cell (p:=⟨s,i,none⟩) (aG hsl (by simp))).trans (dD w _ ⟨s,i,none⟩ hsl)) (fun i=>(hb3.cell (p:=⟨g,i,none⟩) (aG hgl (by simp))).trans (dD w _ ⟨g,i,none⟩ hgl)))))
 ·generalize hw4:w3.alloc (.cells #[.int .i64 24,.int .i64 0,.string x.a,.int .i64 0,.int .i64 0,.string ⟨#[]⟩,.int .i64 0,.int .i64 now] 43)=w4;have hb4:Below w3.heap.size w3 w4:=hw4▸(ai _ _).alloc (ag _) _;have T1:=jP (show kC Vt w4 g cl ph tx 1 ttl (.slice (some ⟨q,0,none⟩) 1 cq) at_ (.slice Ar 1 cr) p from ((show kC Vt w.drew g cl ph tx 1 ttl (.slice (some ⟨q,0,none⟩) 1 cq) at_ (.slice Ar 1 cr) p from HM.1).below hb3 hgl).below hb4 (aG hgl hz3));have T2:=jP (show Bk w4 w3.heap.size 43 #[.int .i64 24,.int .i64 0,.string x.a,.int .i64 0,.int .i64 0,.string ⟨#[]⟩,.int .i64 0,.int .i64 now] from hw4▸Bk.new w3 _ _);have T3:=jP (show mJ w4 s n lim now cnt lk st from Bk.below (Bk.below (show Bk w.drew s _ _ from HS.1) hb3 hsl) hb4 (aG hsl hz3));have T4:=jP (show w4.ownsRow w.heap.size 41 4 (.slice A2 0 c2) 0 (nH []) from kD ho3 hb4);have T5:=jP (show jR [g,s] w w4 from hw4▸(((jR.refl [g,s] w).drew).trans (jR.below hb3 (ag _))).alloc _);have BU:¬g=w3.heap.size:=bY (aG hgl hz3);have hz5:¬s=w3.heap.size:=bY (aG hsl hz3);have hz6:w.heap.size<=w3.heap.size:=hz3;clear hb4;clear hw4 HM HS HD x0 x1 x2 x3 x4 x5 x6 x7 x8 hb3 ho3 mg hz3;have y0:=T2.1.cell 0;have y1:=T2.1.cell 1;have y2:=T2.1.cell 2;have y3:=T2.1.cell 3;have y4:=T2.1.cell 4;have y5:=T2.1.cell 5;have y6:=T2.1.cell 6;have y7:=T2.1.cell 7;have m0:=T1.1.p0;have m1:=T1.1.p1;have m2:=T1.1.p2;have m3:=T1.1.p3;have m4:=T1.1.p4;have m5:=T1.1.p5;have m6:=T1.1.p6;have m7:=T1.1.p7;have f0:=T1.1.fr 20;have f1:=T1.1.fr 21;have f2:=T1.1.fr 22;have f3:=T1.1.fr 23;have f4:=T1.1.fr 24;have f5:=T1.1.fr 25;have f6:=T1.1.fr 26;have f7:=T1.1.fr 27;go_upto_region 3 with (fail)
  generalize hw5:((((((((w4.setCell ⟨g,20,none⟩ (.int .i64 24)).setCell ⟨g,21,none⟩ (.int .i64 0)).setCell ⟨g,22,none⟩ (.string x.a)).setCell ⟨g,23,none⟩ (.int .i64 0)).setCell ⟨g,24,none⟩ (.int .i64 0)).setCell ⟨g,25,none⟩ (.string ⟨#[]⟩)).setCell ⟨g,26,none⟩ (.int .i64 0)).setCell ⟨g,27,none⟩ (.int .i64 now))=w5;have HE:=jP (show kC Vt w5 g cl ph tx 1 ttl (.slice (some ⟨q,0,none⟩) 1 cq) at_ (.slice Ar 1 cr) ⟨24,0,x.a,Rc.none,now⟩ from hw5▸T1.1.srs ⟨24,0,x.a,Rc.none,now⟩);have HT:=jP (show mJ w5 s n lim now cnt lk st from hw5▸yB 20 T3.1 hgs.symm _ _ _ _ _ _ _ _);have HU:=jP (show w5.ownsRow w.heap.size 41 4 (.slice A2 0 c2) 0 (nH []) from hw5▸Oe 20 T4.1 hgl _ _ _ _ _ _ _ _);have HV:=jP (show jR [g,s] w w5 from hw5▸Jw 20 T5.1 _ _ _ _ _ _ _ _);have HW:=jP (show Bk w5 w3.heap.size 43 #[.int .i64 24,.int .i64 0,.string x.a,.int .i64 0,.int .i64 0,.string ⟨#[]⟩,.int .i64 0,.int .i64 now] from hw5▸Bk.yB 20 T2.1 (fun e=>BU e.symm) _ _ _ _ _ _ _ _);clear hw5 T1 T2 T3 T4 T5 y0 y1 y2 y3 y4 y5 y6 y7 m0 m1 m2 m3 m4 m5 m6 m7 f0 f1 f2 f3 f4 f5 f6 f7;have z0:=HW.1.cell 0;have c15:=HE.1.cop;go_wp2_with fail
  refine (uf 6 (show kC Vt _ g cl ph tx 1 ttl (.slice (some ⟨q,0,none⟩) 1 cq) at_ (.slice Ar 1 cr) ⟨24,0,x.a,Rc.none,now⟩ from HE.1)).mono ?_;rintro e w6 ⟨rfl,zF,kT⟩;have yZ:=jP zF;have lI:=jP (HV.1.trans (kT.more (T:=[g,s]) (by simp)));have o6:=jP (HT.1.jS kT (by simpa using hgs.symm));clear zF kT;go_wp2_with fail
  go_ret
  exact⟨rfl,yZ.1,o6.1,lI.1⟩
 ·have hlt3:w.heap.size<w3.heap.size:=HB4.lt;have hal:Below w.heap.size w (w.alloc (.cells uz 43)).drew:=((ai _ _).alloc (ag _) _).drew;generalize hw4:((((((((w3.setCell ⟨w.heap.size,0,none⟩ (.int .i64 24)).setCell ⟨w.heap.size,1,none⟩ (.int .i64 0)).setCell ⟨w.heap.size,2,none⟩ (.string x.a)).setCell ⟨w.heap.size,3,none⟩ (.int .i64 0)).setCell ⟨w.heap.size,4,none⟩ (.int .i64 0)).setCell ⟨w.heap.size,5,none⟩ (.string ⟨#[]⟩)).setCell ⟨w.heap.size,6,none⟩ (.int .i64 0)).setCell ⟨w.heap.size,7,none⟩ (.int .i64 now))=w4;have T1:=jP (show kC Vt w4 g cl ph tx 1 ttl (.slice (some ⟨q,0,none⟩) 1 cq) at_ (.slice Ar 1 cr) p from hw4▸Bk.Ba ((HM.1.below hal hgl).below hb3 (aG hgl hal.size)) (bY hgl) _ _ _ _ _ _ _ _);have T2:=jP (show Bk w4 w.heap.size 43 #[.int .i64 24,.int .i64 0,.string x.a,.int .i64 0,.int .i64 0,.string ⟨#[]⟩,.int .i64 0,.int .i64 now] from hw4▸KO HB4 _ _ _ _ _ _ _ _);have T3:=jP (show mJ w4 s n lim now cnt lk st from hw4▸Bk.Ba (Bk.below (Bk.below HS.1 hal hsl) hb3 (aG hsl hal.size)) (bY hsl) _ _ _ _ _ _ _ _);have T4:=jP (show w4.ownsRow w.heap.size 41 4 (.slice A2 0 c2) 0 (nH []) from hw4▸t_ (Px ho3 (show w.heap.size<(w.alloc (.cells uz 43)).heap.size by simp) _ _ _ _ _ _ _ _) hal.size);have T5:=jP (show jR [g,s] w w4 from hw4▸jR.VV ((jR.below hal (ag _)).trans (jR.below hb3 (ag _))) (ag _) _ _ _ _ _ _ _ _);have BU:¬g=w.heap.size:=bY hgl;have hz5:¬s=w.heap.size:=bY hsl;have hz6:w.heap.size<=w.heap.size:=ag _;clear hal;clear hw4 HM HS HD x0 x1 x2 x3 x4 x5 x6 x7 x8 hb3 ho3 mg hz3 HB4 hlt3 k0 Zc k1 Zb k2 Za k3 Y_ k4 Y9 k5 Y8 k6 Y7 k7 Y6;have y0:=T2.1.cell 0;have y1:=T2.1.cell 1;have y2:=T2.1.cell 2;have y3:=T2.1.cell 3;have y4:=T2.1.cell 4;have y5:=T2.1.cell 5;have y6:=T2.1.cell 6;have y7:=T2.1.cell 7;have m0:=T1.1.p0;have m1:=T1.1.p1;have m2:=T1.1.p2;have m3:=T1.1.p3;have m4:=T1.1.p4;have m5:=T1.1.p5;have m6:=T1.1.p6;have m7:=T1.1.p7;have f0:=T1.1.fr 20;have f1:=T1.1.fr 21;have f2:=T1.1.fr 22;have f3:=T1.1.fr 23;have f4:=T1.1.fr 24;have f5:=T1.1.fr 25;have f6:=T1.1.fr 26;have f7:=T1.1.fr 27;go_upto_region 3 with (fail)
  generalize hw5:((((((((w4.setCell ⟨g,20,none⟩ (.int .i64 24)).setCell ⟨g,21,none⟩ (.int .i64 0)).setCell ⟨g,22,none⟩ (.string x.a)).setCell ⟨g,23,none⟩ (.int .i64 0)).setCell ⟨g,24,none⟩ (.int .i64 0)).setCell ⟨g,25,none⟩ (.string ⟨#[]⟩)).setCell ⟨g,26,none⟩ (.int .i64 0)).setCell ⟨g,27,none⟩ (.int .i64 now))=w5;have HE:=jP (show kC Vt w5 g cl ph tx 1 ttl (.slice (some ⟨q,0,none⟩) 1 cq) at_ (.slice Ar 1 cr) ⟨24,0,x.a,Rc.none,now⟩ from hw5▸T1.1.srs ⟨24,0,x.a,Rc.none,now⟩);have HT:=jP (show mJ w5 s n lim now cnt lk st from hw5▸yB 20 T3.1 hgs.symm _ _ _ _ _ _ _ _);have HU:=jP (show w5.ownsRow w.heap.size 41 4 (.slice A2 0 c2) 0 (nH []) from hw5▸Oe 20 T4.1 hgl _ _ _ _ _ _ _ _);have HV:=jP (show jR [g,s] w w5 from hw5▸Jw 20 T5.1 _ _ _ _ _ _ _ _);have HW:=jP (show Bk w5 w.heap.size 43 #[.int .i64 24,.int .i64 0,.string x.a,.int .i64 0,.int .i64 0,.string ⟨#[]⟩,.int .i64 0,.int .i64 now] from hw5▸Bk.yB 20 T2.1 (fun e=>BU e.symm) _ _ _ _ _ _ _ _);clear hw5 T1 T2 T3 T4 T5 y0 y1 y2 y3 y4 y5 y6 y7 m0 m1 m2 m3 m4 m5 m6 m7 f0 f1 f2 f3 f4 f5 f6 f7;have z0:=HW.1.cell 0;have c15:=HE.1.cop;go_wp2_with fail
  refine (uf 6 (show kC Vt _ g cl ph tx 1 ttl (.slice (some ⟨q,0,none⟩) 1 cq) at_ (.slice Ar 1 cr) ⟨24,0,x.a,Rc.none,now⟩ from HE.1)).mono ?_;rintro e w6 ⟨rfl,zF,kT⟩;have yZ:=jP zF;have lI:=jP (HV.1.trans (kT.more (T:=[g,s]) (by simp)));have o6:=jP (HT.1.jS kT (by simpa using hgs.symm));clear zF kT;go_wp2_with fail
  go_ret
  exact⟨rfl,yZ.1,o6.1,lI.1⟩
end Go.Proofs.YtkachcflifhgiaaGreatDoor
namespace Go.Proofs.YtkachcflifhgiaaGreatDoor
open Go Go.RowKit Go.Shelf
variable {Vt:TV}
theorem acy (r:Rc)(gr:Int)(hst:r.st=0\/r.st=1)(hgr:1-r.st=gr)(w:World) :
  Calls Tryz.prog 224 #[.agg (m_ r.st r.ow r.nm r.dl),.int .i64 1] w fun e w'=>e=.returned (.int .i64 gr)/\Below w.heap.size w w':=hgr▸D8 r.st r.ow r.nm r.dl hst w
theorem PO {g s lk st q:Nat}{n lim now cnt:Int}{cl ph:Int}{tx:ByteArray}{ttl:Int}{cq cr:Nat}{br ql:Nat}{at_:Int}{p:Rs}{B:Nat}{x:Nm}{r:Rc}{w:World}{gr:Int}(hAr:br∉[g,s])(hlv:r.live now=false)(t1:1<=ttl)(t2:now+ttl<=1073741824)(hgr:1-r.st=gr)(hcap:(gr=1/\cnt<lim)\/gr=0)
  (h:kC Vt w g cl ph tx 1 ttl (.slice (some ⟨q,0,none⟩) 1 cq) at_ (.slice (some ⟨br,ql,none⟩) 1 cr) p) (hs:mJ w s n lim now cnt lk st) (hgs:g≠s)
  (hn:Rd w B 3 (some ⟨q,0,none⟩) 1 (lq [x])) (hr:Rd w B 4 (some ⟨br,ql,none⟩) 1 (nH [r])) (hB:B<=w.heap.size) (hst:r.st=0\/r.st=1) (h0:0<=now) (hcnt:0<=cnt/\cnt<=1000) :
  Calls Tryz.prog 165 #[.pointer (some ⟨g,0,none⟩),.pointer (some ⟨s,0,none⟩)] w fun e w'=>∃ A2 c2,e=.returned (.int .i64 3)/\kC Vt w' g cl 5 tx 1 ttl (.slice (some ⟨q,0,none⟩) 1 cq) 0 (.slice A2 1 c2) ⟨0,-1,ByteArray.empty,Rc.none,now⟩/\mJ w' s n lim now (cnt+gr) lk st/\w'.ownsRow w.heap.size 41 4 (.slice A2 1 c2) 1 (nH [⟨1,cl,x.a,now+ttl⟩])/\jR [g,s] w w':=by
 have HD:=jP (fun (w':World) (h1:Rd w' B 3 (some ⟨q,0,none⟩) 1 (lq [x])) (h2:Rd w' B 4 (some ⟨br,ql,none⟩) 1 (nH [r])) (h3:B<=w'.heap.size)=>TG n lim cnt cl ttl now gr x r (some ⟨q,0,none⟩) (some ⟨br,ql,none⟩) cq cr B w' h1 h2 h3 hst h0 hcnt hlv t1 t2 hgr hcap);have HM:=jP h;have HS:=jP hs;have HN:=jP hn;have HR:=jP hr;have x0:=hs.c0;have x1:=hs.c1;have x2:=hs.c2;have x3:=hs.c3;have x4:=h.ccl;have x5:=h.cop;have x6:=h.QK;have x7:=h.QU;have x8:=h.Np;have hgl:=h.lt;have hsl:=hs.lt;obtain⟨br',aoW,har,hbr,r0,r1,r2,r3⟩:=DR hr;injection har with har;injection har with e1 e2 _
 subst e1;subst e2;have Ez:=jP (show br<B/\br∉[g,s]/\w.cell? ⟨br,ql,none⟩=some (.int .i64 r.st)/\w.cell? ⟨br,ql+1,none⟩=some (.int .i64 r.ow)/\w.cell? ⟨br,ql+2,none⟩=some (.string r.nm)/\w.cell? ⟨br,ql+3,none⟩=some (.int .i64 r.dl) from ⟨hbr,hAr,r0,r1,r2,r3⟩);clear hbr r0 r1 r2 r3;have HG:=jP (fun w:World=>acy r gr hst hgr w);clear h hs hn hr;go_enter Tryz.func165,Tryz.ntmps165
 go_upto_region 1 with (fail)
 go_region_held3 (fun w'=>w'.cell? ⟨s,0,none⟩=some (.int .i64 n)/\w'.cell? ⟨s,1,none⟩=some (.int .i64 lim)/\w'.cell? ⟨s,2,none⟩=some (.int .i64 now)/\w'.cell? ⟨s,3,none⟩=some (.int .i64 cnt)/\w'.cell? ⟨g,12,none⟩=some (.int .i64 cl)/\w'.cell? ⟨g,15,none⟩=some (.int .i64 1)/\w'.cell? ⟨g,16,none⟩=some (.int .i64 ttl)/\w'.cell? ⟨g,17,none⟩=some (.slice (some ⟨q,0,none⟩) 1 cq)/\w'.cell? ⟨g,19,none⟩=some (.slice (some ⟨br,ql,none⟩) 1 cr))
  (first
   | with_reducible exact mg.1
   | with_reducible exact SD.alloc mg.1 (aG hsl hz3) (aG hgl hz3) _
   | with_reducible exact SD.Ba mg.1 (bY hsl) (bY hgl) _ _ _ _ _ _ _ _
   | go_keep
   | fail)
  (first
   | (go_at_call 223;refine (HD.1 _ HN.1.drew HR.1.drew hB).mono ?_;rintro e w3 ⟨A2,c2,rfl,ho3,hb3⟩;simp only[Rs.arr,Rc.none,show ByteArray.empty=⟨#[]⟩ from rfl];have hz3:w.heap.size<=w3.heap.size:=aK (by simp) hb3.size;have mg:=jP (SD.same (w:=w) (w':=w3) ⟨x0,x1,x2,x3,x4,x5,x6,x7,x8⟩ (fun i=>hb3.cell (p:=⟨s,i,none⟩) (aG hsl (by simp))) (fun i=>hb3.cell (p:=⟨g,i,none⟩) (aG hgl (by simp)))))
   | (go_at_call 223;refine (HD.1 _ ((HN.1.alloc hB _).drew) ((HR.1.alloc hB _).drew) (aK hB (by simp))).mono ?_;rintro e w3 ⟨A2,c2,rfl,ho3,hb3⟩;simp only[Rs.arr,Rc.none,show ByteArray.empty=⟨#[]⟩ from rfl];have hz3:w.heap.size<=w3.heap.size:=aK (by simp) hb3.size;have HB4:Bk w3 w.heap.size 43 uz:=Bk.below (show Bk (w.alloc (.cells uz 43)).drew _ _ _ from Bk.new w _ uz) hb3 (by simp);obtain⟨k0,Zc,k1,Zb,k2,Za,k3,Y_,k4,Y9,k5,Y8,k6,Y7,k7,Y6⟩:=EO HB4;have mg:=jP (SD.same (w:=w) (w':=w3) ⟨x0,x1,x2,x3,x4,x5,x6,x7,x8⟩ (fun i=>(hb3.cell (p:=⟨s,i,none⟩) (aG hsl (by simp))).trans (dD w _ ⟨s,i,none⟩ hsl)) (fun i=>(hb3.cell (p:=⟨g,i,none⟩) (aG hgl (by simp))).trans (dD w _ ⟨g,i,none⟩ hgl)))))
 ·generalize hw4:w3.alloc (.cells #[.int .i64 0,.int .i64 (-1),.string ⟨#[]⟩,.int .i64 0,.int .i64 0,.string ⟨#[]⟩,.int .i64 0,.int .i64 now] 43)=w4;have hb4:Below w3.heap.size w3 w4:=hw4▸(ai _ _).alloc (ag _) _;have T1:=jP (show kC Vt w4 g cl ph tx 1 ttl (.slice (some ⟨q,0,none⟩) 1 cq) at_ (.slice (some ⟨br,ql,none⟩) 1 cr) p from ((show kC Vt w.drew g cl ph tx 1 ttl (.slice (some ⟨q,0,none⟩) 1 cq) at_ (.slice (some ⟨br,ql,none⟩) 1 cr) p from HM.1).below hb3 hgl).below hb4 (aG hgl hz3));have T2:=jP (show Bk w4 w3.heap.size 43 #[.int .i64 0,.int .i64 (-1),.string ⟨#[]⟩,.int .i64 0,.int .i64 0,.string ⟨#[]⟩,.int .i64 0,.int .i64 now] from hw4▸Bk.new w3 _ _);have T3:=jP (show mJ w4 s n lim now cnt lk st from Bk.below (Bk.below (show Bk w.drew s _ _ from HS.1) hb3 hsl) hb4 (aG hsl hz3));have T4:=jP (show w4.ownsRow w.heap.size 41 4 (.slice A2 1 c2) 1 (nH [⟨1,cl,x.a,now+ttl⟩]) from kD ho3 hb4);have T5:=jP (show jR [g,s] w w4 from hw4▸(((jR.refl [g,s] w).drew).trans (jR.below hb3 (ag _))).alloc _);have BU:¬g=w3.heap.size:=bY (aG hgl hz3);have hz5:¬s=w3.heap.size:=bY (aG hsl hz3);have hz6:w.heap.size<=w3.heap.size:=hz3;clear hb4;clear hw4 HM HS HD x0 x1 x2 x3 x4 x5 x6 x7 x8 hb3 ho3 mg hz3;have y0:=T2.1.cell 0;have y1:=T2.1.cell 1;have y2:=T2.1.cell 2;have y3:=T2.1.cell 3;have y4:=T2.1.cell 4;have y5:=T2.1.cell 5;have y6:=T2.1.cell 6;have y7:=T2.1.cell 7;have m0:=T1.1.p0;have m1:=T1.1.p1;have m2:=T1.1.p2;have m3:=T1.1.p3;have m4:=T1.1.p4;have m5:=T1.1.p5;have m6:=T1.1.p6;have m7:=T1.1.p7;have f0:=T1.1.fr 20;have f1:=T1.1.fr 21;have f2:=T1.1.fr 22;have f3:=T1.1.fr 23;have f4:=T1.1.fr 24;have f5:=T1.1.fr 25;have f6:=T1.1.fr 26;have f7:=T1.1.fr 27;go_upto_region 3 with (fail)
  generalize hw5:((((((((w4.setCell ⟨g,20,none⟩ (.int .i64 0)).setCell ⟨g,21,none⟩ (.int .i64 (-1))).setCell ⟨g,22,none⟩ (.string ⟨#[]⟩)).setCell ⟨g,23,none⟩ (.int .i64 0)).setCell ⟨g,24,none⟩ (.int .i64 0)).setCell ⟨g,25,none⟩ (.string ⟨#[]⟩)).setCell ⟨g,26,none⟩ (.int .i64 0)).setCell ⟨g,27,none⟩ (.int .i64 now))=w5;have HE:=jP (show kC Vt w5 g cl ph tx 1 ttl (.slice (some ⟨q,0,none⟩) 1 cq) at_ (.slice (some ⟨br,ql,none⟩) 1 cr) ⟨0,-1,ByteArray.empty,Rc.none,now⟩ from hw5▸T1.1.srs ⟨0,-1,ByteArray.empty,Rc.none,now⟩);have HT:=jP (show mJ w5 s n lim now cnt lk st from hw5▸yB 20 T3.1 hgs.symm _ _ _ _ _ _ _ _);have HU:=jP (show w5.ownsRow w.heap.size 41 4 (.slice A2 1 c2) 1 (nH [⟨1,cl,x.a,now+ttl⟩]) from hw5▸Oe 20 T4.1 hgl _ _ _ _ _ _ _ _);have HV:=jP (show jR [g,s] w w5 from hw5▸Jw 20 T5.1 _ _ _ _ _ _ _ _);have HW:=jP (show Bk w5 w3.heap.size 43 #[.int .i64 0,.int .i64 (-1),.string ⟨#[]⟩,.int .i64 0,.int .i64 0,.string ⟨#[]⟩,.int .i64 0,.int .i64 now] from hw5▸Bk.yB 20 T2.1 (fun e=>BU e.symm) _ _ _ _ _ _ _ _);clear hw5 T1 T2 T3 T4 T5 y0 y1 y2 y3 y4 y5 y6 y7 m0 m1 m2 m3 m4 m5 m6 m7 f0 f1 f2 f3 f4 f5 f6 f7;have z0:=HW.1.cell 0;have c15:=HE.1.cop;have c19:=HE.1.Np;go_wp2_with fail
  refine fG 2 ?_;rw[dN];have hbw:br<w.heap.size:=aG Ez.1.1 hB;have hbs:br∉[g,s]:=Ez.1.2.1;have q0:w5.cell? ⟨br,ql,none⟩=some (.int .i64 r.st):=(HV.1.cell (p:=⟨br,ql,none⟩) hbw hbs).trans Ez.1.2.2.1;have q1:w5.cell? ⟨br,ql+1,none⟩=some (.int .i64 r.ow):=(HV.1.cell (p:=⟨br,ql+1,none⟩) hbw hbs).trans Ez.1.2.2.2.1;have q2:w5.cell? ⟨br,ql+2,none⟩=some (.string r.nm):=(HV.1.cell (p:=⟨br,ql+2,none⟩) hbw hbs).trans Ez.1.2.2.2.2.1;have q3:w5.cell? ⟨br,ql+3,none⟩=some (.int .i64 r.dl):=(HV.1.cell (p:=⟨br,ql+3,none⟩) hbw hbs).trans Ez.1.2.2.2.2.2;have mY:=jP ((ai w5.heap.size w5).alloc (ag _) (.cells (m_ r.st r.ow r.nm r.dl) 41));have FQ:=jP (Bk.new w5 41 (m_ r.st r.ow r.nm r.dl));go_upto_region 9 with (fail)
  generalize hw6:w5.alloc (.cells (m_ r.st r.ow r.nm r.dl) 41)=w6 at *;have KD:=jP (HE.1.below mY.1 HE.1.lt);have vZ:=jP (show mJ w6 s n lim now cnt lk st from Bk.below HT.1 mY.1 (Bk.lt HT.1));have HU6:=jP (kD HU.1 mY.1);have vY:=jP (HV.1.trans (jR.below (S:=[g,s]) mY.1 (ag _)));clear hw6 HE HT HU HV HW mY z0 c15 c19 q0 q1 q2 q3;have u0:=FQ.1.cell 0;have u1:=FQ.1.cell 1;have u2:=FQ.1.cell 2;have u3:=FQ.1.cell 3;have s3:=vZ.1.c3;have sf:=vZ.1.fr 3;have c15:=KD.1.cop;have IL:=vZ.1.lt;have acm:=KD.1.lt;have hwr:IntKind.i64.wrap (cnt+gr)=cnt+gr:=aW _ (by omega);go_region_with (go_at_call 224;refine (HG.1 _).mono ?_;rintro e w7 ⟨rfl,hb7⟩;have s37:w7.cell? ⟨s,3,none⟩=some (.int .i64 cnt):=(hb7.cell (p:=⟨s,3,none⟩) IL).trans s3;have sf7:w7.frozen? ⟨s,3,none⟩=false:=mJ.fr (n:=n) (lim:=lim) (now:=now) (cnt:=cnt) (lk:=lk) (st:=st) (Bk.below (show Bk w6.drew s _ _ from vZ.1) hb7 IL) 3)
  all_goals
   have AV:Below w6.heap.size w6 w7:=(ai w6.heap.size w6).drew.trans hb7;have KC:=jP ((KD.1.below AV acm).far (q:=⟨s,3,none⟩) hgs (.int .i64 (cnt+gr)));have NK:=jP (mJ.agE (show mJ w7 s n lim now cnt lk st from Bk.below vZ.1 AV IL) (cnt+gr));have HU7:=jP (aQ (kD HU6.1 AV) (a:=⟨s,3,none⟩) hsl (.int .i64 (cnt+gr)));have HV7:=jP ((vY.1.trans (jR.below (S:=[g,s]) AV (ag _))).setCell (p:=⟨s,3,none⟩) (.inl (by simp)) (.int .i64 (cnt+gr)));generalize hw8:w7.setCell ⟨s,3,none⟩ (.int .i64 (cnt+gr))=w8 at *;clear hw8 hb7 AV KD vZ HU6 vY FQ u0 u1 u2 u3 s3 sf c15 s37 sf7;go_wp2_with fail
   rw[dN];have c19:=KC.1.Np;have f19:=KC.1.fr 19;go_wp2_with fail
   have HE8:=jP (KC.1.srv (.slice A2 1 c2));have qL:=jP (mJ.jS NK.1 ((jR.refl [g] w8).setCell (p:=⟨g,19,none⟩) (.inl (by simp)) (.slice A2 1 c2)) (by simpa using hgs.symm));have HU8:=jP (aQ HU7.1 (a:=⟨g,19,none⟩) hgl (.slice A2 1 c2));have Vl:=jP (HV7.1.setCell (p:=⟨g,19,none⟩) (.inl (by simp)) (.slice A2 1 c2));generalize qP:w8.setCell ⟨g,19,none⟩ (.slice A2 1 c2)=w9 at *;clear qP KC NK HU7 HV7 c19 f19;refine (uf 5 HE8.1).mono ?_;rintro e w10 ⟨rfl,hm,ho⟩;have HM9:=jP hm;have Vp:=jP (mJ.jS qL.1 ho (by simpa using hgs.symm));have HU9:=jP (uG HU8.1 ho (by intro i hi;simp at hi;subst hi;exact hgl));have HV9:=jP (Vl.1.trans (ho.more (T:=[g,s]) (by simp)));clear hm ho;go_wp2_with fail
   go_ret
   exact⟨A2,c2,rfl,HM9.1,Vp.1,HU9.1,HV9.1⟩
 ·have hlt3:w.heap.size<w3.heap.size:=HB4.lt;have hal:Below w.heap.size w (w.alloc (.cells uz 43)).drew:=((ai _ _).alloc (ag _) _).drew;generalize hw4:((((((((w3.setCell ⟨w.heap.size,0,none⟩ (.int .i64 0)).setCell ⟨w.heap.size,1,none⟩ (.int .i64 (-1))).setCell ⟨w.heap.size,2,none⟩ (.string ⟨#[]⟩)).setCell ⟨w.heap.size,3,none⟩ (.int .i64 0)).setCell ⟨w.heap.size,4,none⟩ (.int .i64 0)).setCell ⟨w.heap.size,5,none⟩ (.string ⟨#[]⟩)).setCell ⟨w.heap.size,6,none⟩ (.int .i64 0)).setCell ⟨w.heap.size,7,none⟩ (.int .i64 now))=w4;have T1:=jP (show kC Vt w4 g cl ph tx 1 ttl (.slice (some ⟨q,0,none⟩) 1 cq) at_ (.slice (some ⟨br,ql,none⟩) 1 cr) p from hw4▸Bk.Ba ((HM.1.below hal hgl).below hb3 (aG hgl hal.size)) (bY hgl) _ _ _ _ _ _ _ _);have T2:=jP (show Bk w4 w.heap.size 43 #[.int .i64 0,.int .i64 (-1),.string ⟨#[]⟩,.int .i64 0,.int .i64 0,.string ⟨#[]⟩,.int .i64 0,.int .i64 now] from hw4▸KO HB4 _ _ _ _ _ _ _ _);have T3:=jP (show mJ w4 s n lim now cnt lk st from hw4▸Bk.Ba (Bk.below (Bk.below HS.1 hal hsl) hb3 (aG hsl hal.size)) (bY hsl) _ _ _ _ _ _ _ _);have T4:=jP (show w4.ownsRow w.heap.size 41 4 (.slice A2 1 c2) 1 (nH [⟨1,cl,x.a,now+ttl⟩]) from hw4▸t_ (Px ho3 (show w.heap.size<(w.alloc (.cells uz 43)).heap.size by simp) _ _ _ _ _ _ _ _) hal.size);have T5:=jP (show jR [g,s] w w4 from hw4▸jR.VV ((jR.below hal (ag _)).trans (jR.below hb3 (ag _))) (ag _) _ _ _ _ _ _ _ _);have BU:¬g=w.heap.size:=bY hgl;have hz5:¬s=w.heap.size:=bY hsl;have hz6:w.heap.size<=w.heap.size:=ag _;clear hal;clear hw4 HM HS HD x0 x1 x2 x3 x4 x5 x6 x7 x8 hb3 ho3 mg hz3 HB4 hlt3 k0 Zc k1 Zb k2 Za k3 Y_ k4 Y9 k5 Y8 k6 Y7 k7 Y6;have y0:=T2.1.cell 0;have y1:=T2.1.cell 1;have y2:=T2.1.cell 2;have y3:=T2.1.cell 3;have y4:=T2.1.cell 4;have y5:=T2.1.cell 5;have y6:=T2.1.cell 6;have y7:=T2.1.cell 7;have m0:=T1.1.p0;have m1:=T1.1.p1;have m2:=T1.1.p2;have m3:=T1.1.p3;have m4:=T1.1.p4;have m5:=T1.1.p5;have m6:=T1.1.p6;have m7:=T1.1.p7;have f0:=T1.1.fr 20;have f1:=T1.1.fr 21;have f2:=T1.1.fr 22;have f3:=T1.1.fr 23;have f4:=T1.1.fr 24;have f5:=T1.1.fr 25;have f6:=T1.1.fr 26;have f7:=T1.1.fr 27;go_upto_region 3 with (fail)
  generalize hw5:((((((((w4.setCell ⟨g,20,none⟩ (.int .i64 0)).setCell ⟨g,21,none⟩ (.int .i64 (-1))).setCell ⟨g,22,none⟩ (.string ⟨#[]⟩)).setCell ⟨g,23,none⟩ (.int .i64 0)).setCell ⟨g,24,none⟩ (.int .i64 0)).setCell ⟨g,25,none⟩ (.string ⟨#[]⟩)).setCell ⟨g,26,none⟩ (.int .i64 0)).setCell ⟨g,27,none⟩ (.int .i64 now))=w5;have HE:=jP (show kC Vt w5 g cl ph tx 1 ttl (.slice (some ⟨q,0,none⟩) 1 cq) at_ (.slice (some ⟨br,ql,none⟩) 1 cr) ⟨0,-1,ByteArray.empty,Rc.none,now⟩ from hw5▸T1.1.srs ⟨0,-1,ByteArray.empty,Rc.none,now⟩);have HT:=jP (show mJ w5 s n lim now cnt lk st from hw5▸yB 20 T3.1 hgs.symm _ _ _ _ _ _ _ _);have HU:=jP (show w5.ownsRow w.heap.size 41 4 (.slice A2 1 c2) 1 (nH [⟨1,cl,x.a,now+ttl⟩]) from hw5▸Oe 20 T4.1 hgl _ _ _ _ _ _ _ _);have HV:=jP (show jR [g,s] w w5 from hw5▸Jw 20 T5.1 _ _ _ _ _ _ _ _);have HW:=jP (show Bk w5 w.heap.size 43 #[.int .i64 0,.int .i64 (-1),.string ⟨#[]⟩,.int .i64 0,.int .i64 0,.string ⟨#[]⟩,.int .i64 0,.int .i64 now] from hw5▸Bk.yB 20 T2.1 (fun e=>BU e.symm) _ _ _ _ _ _ _ _);clear hw5 T1 T2 T3 T4 T5 y0 y1 y2 y3 y4 y5 y6 y7 m0 m1 m2 m3 m4 m5 m6 m7 f0 f1 f2 f3 f4 f5 f6 f7;have z0:=HW.1.cell 0;have c15:=HE.1.cop;have c19:=HE.1.Np;go_wp2_with fail
  refine fG 2 ?_;rw[dN];have hbw:br<w.heap.size:=aG Ez.1.1 hB;have hbs:br∉[g,s]:=Ez.1.2.1;have q0:w5.cell? ⟨br,ql,none⟩=some (.int .i64 r.st):=(HV.1.cell (p:=⟨br,ql,none⟩) hbw hbs).trans Ez.1.2.2.1;have q1:w5.cell? ⟨br,ql+1,none⟩=some (.int .i64 r.ow):=(HV.1.cell (p:=⟨br,ql+1,none⟩) hbw hbs).trans Ez.1.2.2.2.1;have q2:w5.cell? ⟨br,ql+2,none⟩=some (.string r.nm):=(HV.1.cell (p:=⟨br,ql+2,none⟩) hbw hbs).trans Ez.1.2.2.2.2.1;have q3:w5.cell? ⟨br,ql+3,none⟩=some (.int .i64 r.dl):=(HV.1.cell (p:=⟨br,ql+3,none⟩) hbw hbs).trans Ez.1.2.2.2.2.2;have mY:=jP ((ai w5.heap.size w5).alloc (ag _) (.cells (m_ r.st r.ow r.nm r.dl) 41));have FQ:=jP (Bk.new w5 41 (m_ r.st r.ow r.nm r.dl));go_upto_region 9 with (fail)
  generalize hw6:w5.alloc (.cells (m_ r.st r.ow r.nm r.dl) 41)=w6 at *;have KD:=jP (HE.1.below mY.1 HE.1.lt);have vZ:=jP (show mJ w6 s n lim now cnt lk st from Bk.below HT.1 mY.1 (Bk.lt HT.1));have HU6:=jP (kD HU.1 mY.1);have vY:=jP (HV.1.trans (jR.below (S:=[g,s]) mY.1 (ag _)));clear hw6 HE HT HU HV HW mY z0 c15 c19 q0 q1 q2 q3;have u0:=FQ.1.cell 0;have u1:=FQ.1.cell 1;have u2:=FQ.1.cell 2;have u3:=FQ.1.cell 3;have s3:=vZ.1.c3;have sf:=vZ.1.fr 3;have c15:=KD.1.cop;have IL:=vZ.1.lt;have acm:=KD.1.lt;have hwr:IntKind.i64.wrap (cnt+gr)=cnt+gr:=aW _ (by omega);go_region_with (go_at_call 224;refine (HG.1 _).mono ?_;rintro e w7 ⟨rfl,hb7⟩;have s37:w7.cell? ⟨s,3,none⟩=some (.int .i64 cnt):=(hb7.cell (p:=⟨s,3,none⟩) IL).trans s3;have sf7:w7.frozen? ⟨s,3,none⟩=false:=mJ.fr (n:=n) (lim:=lim) (now:=now) (cnt:=cnt) (lk:=lk) (st:=st) (Bk.below (show Bk w6.drew s _ _ from vZ.1) hb7 IL) 3)
  all_goals
   have AV:Below w6.heap.size w6 w7:=(ai w6.heap.size w6).drew.trans hb7;have KC:=jP ((KD.1.below AV acm).far (q:=⟨s,3,none⟩) hgs (.int .i64 (cnt+gr)));have NK:=jP (mJ.agE (show mJ w7 s n lim now cnt lk st from Bk.below vZ.1 AV IL) (cnt+gr));have HU7:=jP (aQ (kD HU6.1 AV) (a:=⟨s,3,none⟩) hsl (.int .i64 (cnt+gr)));have HV7:=jP ((vY.1.trans (jR.below (S:=[g,s]) AV (ag _))).setCell (p:=⟨s,3,none⟩) (.inl (by simp)) (.int .i64 (cnt+gr)));generalize hw8:w7.setCell ⟨s,3,none⟩ (.int .i64 (cnt+gr))=w8 at *;clear hw8 hb7 AV KD vZ HU6 vY FQ u0 u1 u2 u3 s3 sf c15 s37 sf7;go_wp2_with fail
   rw[dN];have c19:=KC.1.Np;have f19:=KC.1.fr 19;go_wp2_with fail
   have HE8:=jP (KC.1.srv (.slice A2 1 c2));have qL:=jP (mJ.jS NK.1 ((jR.refl [g] w8).setCell (p:=⟨g,19,none⟩) (.inl (by simp)) (.slice A2 1 c2)) (by simpa using hgs.symm));have HU8:=jP (aQ HU7.1 (a:=⟨g,19,none⟩) hgl (.slice A2 1 c2));have Vl:=jP (HV7.1.setCell (p:=⟨g,19,none⟩) (.inl (by simp)) (.slice A2 1 c2));generalize qP:w8.setCell ⟨g,19,none⟩ (.slice A2 1 c2)=w9 at *;clear qP KC NK HU7 HV7 c19 f19;refine (uf 5 HE8.1).mono ?_;rintro e w10 ⟨rfl,hm,ho⟩;have HM9:=jP hm;have Vp:=jP (mJ.jS qL.1 ho (by simpa using hgs.symm));have HU9:=jP (uG HU8.1 ho (by intro i hi;simp at hi;subst hi;exact hgl));have HV9:=jP (Vl.1.trans (ho.more (T:=[g,s]) (by simp)));clear hm ho;go_wp2_with fail
   go_ret
   exact⟨A2,c2,rfl,HM9.1,Vp.1,HU9.1,HV9.1⟩
end Go.Proofs.YtkachcflifhgiaaGreatDoor
namespace Go.Proofs.YtkachcflifhgiaaGreatDoor
open Go Go.RowKit Go.Shelf
variable {Vt:TV}
theorem Bk.ne {w:World}{g g':Nat}{t t':TypeId}{c c':Array Value}(h:Bk w g t c)(h':Bk w g' t' c')(ht:t≠t'):g≠g':=by
 rintro rfl;have:=h.symm.trans h';injection this with e
 injection e with e1 e2 e3
 exact ht e2
theorem acD {n i:Nat}(h:i<n):(mM n)[i]?=some kU.none:=by simp[mM,h]
theorem BV (n:Nat):(mM n).length=n:=by simp[mM]
theorem UY (n i:Nat):Sl.gt (mM n) i=kU.none:=by
 simp only[Sl.gt,mM,aY,List.getElem?_replicate];split<;>rfl
theorem yS {n i:Nat}:(Sl.gt (mM n) i).u=false:=by rw[UY];rfl
theorem Nb (n:Nat)(hn:0<n)(key:ByteArray):Sl.find (qH n) (mM n) key=(oU key n,false):=by
 unfold Sl.find Sl.probe;rw[UY,ah (by simp[kU.none])];rfl
theorem acJ (n:Nat)(hn:0<n)(key:ByteArray):Sl.find (qH n) ((mM n).set (oU key n) ⟨true,key⟩) key=(oU key n,true):=by
 have hlt:=yj key n hn;unfold Sl.find Sl.probe;rw[show qH n key=oU key n from rfl,Sl.JP (by rw[BV];exact hlt),aj rfl,aj rfl,aj rfl]
theorem ZF (n:Nat)(i:Nat)(s:kU)(hi:i<n):((mM n).set i s).set i kU.none=mM n:=by
 apply List.ext_getElem?;intro j;rw[List.set_set];by_cases hj:i=j
 ·subst hj;rw[gy (by rw[BV];exact hi),acD hi]
 ·rw[g_ hj]
section
variable {g s lk st ls lo q B:Nat} {n lim now cnt:Int} {cl ph:Int} {tx:ByteArray} {op ttl:Int} {cq:Nat} {rv:Value} {at_:Int} {p:Rs} {x:Nm} {w:World} {O:List Int}
theorem X7 (h:kC Vt w g cl 2 tx op ttl (.slice (some ⟨q,0,none⟩) 1 cq) 0 rv p)(hs:mJ w s n lim now cnt lk st)(hl:nI w lk ls lo 2048 (mM 2048) O 0)
  (hn:Rd w B 3 (some ⟨q,0,none⟩) 1 (lq [x])) (hk:x.k.size<=1000000) (c0:0<=cl) (c1:cl<64) :
  Calls Tryz.prog 101 #[.pointer (some ⟨g,0,none⟩),.pointer (some ⟨s,0,none⟩)] w fun e w'=>e=.returned (.int .i64 1)/\kC Vt w' g cl 3 tx op ttl (.slice (some ⟨q,0,none⟩) 1 cq) 0 rv p /\
   nI w' lk ls lo 2048 ((mM 2048).set (oU x.k 2048) ⟨true,x.k⟩) (O.set (oU x.k 2048) cl) 1/\jR [g,lk,ls,lo] w w':=by
 have hgn:g∉[lk,ls,lo]:=by
  simp;exact⟨Bk.ne h.bk hl.k (by decide),Bk.ne h.bk hl.s (by decide),Bk.ne h.bk hl.o (by decide)⟩
 have hsn:s∉[lk,ls,lo]:=by
  simp;exact⟨Bk.ne hs.bk hl.k (by decide),Bk.ne hs.bk hl.s (by decide),Bk.ne hs.bk hl.o (by decide)⟩
 have x0:=hs.c4;have x1:=h.ccl;have x2:=h.FB;have HM:=jP h;have HS:=jP hs;have HL:=jP hl;have HN:=jP hn;clear h hs hl hn;go_enter ja,iM
 go_wp2_with fail
 go_region_held3 (fun w'=>w'.cell? ⟨s,4,none⟩=some (.pointer (some ⟨lk,0,none⟩))/\w'.cell? ⟨g,12,none⟩=some (.int .i64 cl))
  (first
   | with_reducible exact mg.1
   | exact⟨x0,x1⟩
   | go_keep
   | fail)
  (first
   | (go_at_call 163;refine (Gz (show kC Vt w.drew g cl 2 tx op ttl (.slice (some ⟨q,0,none⟩) 1 cq) 0 rv p from HM.1) (show Rd w.drew B 3 (some ⟨q,0,none⟩) 1 (lq [x]) from HN.1)).mono ?_;rintro e w1 ⟨rfl,m,rfl⟩)
   | (go_at_call 162;refine (TM lk ls lo 2048 0 (oU x.k 2048) (mM 2048) O x.k cl _ (HL.1.drewN _) (by omega) (by omega) hk 0 (by omega) yS (Nb 2048 (by omega) x.k) (yj _ _ (by omega)) (by omega) c0 c1).mono ?_;rintro e w3 ⟨rfl,hl3,ho3⟩;have mg:=jP (show w3.cell? ⟨s,4,none⟩=some (.pointer (some ⟨lk,0,none⟩))/\w3.cell? ⟨g,12,none⟩=some (.int .i64 cl) from ⟨(ho3.cell (p:=⟨s,4,none⟩) HS.1.lt hsn).trans x0,(ho3.cell (p:=⟨g,12,none⟩) HM.1.lt hgn).trans x1⟩)))
 have ho:jR [lk,ls,lo] w w3:=((jR.refl _ w).drewN (1+m)).trans ho3;have y_:=jP (HM.1.jS ho hgn);have mX:=jP ho;have RV:=jP hl3;clear ho ho3 hl3 x0 x1 x2 HL HN mg;go_wp2_with fail
 refine (BP 3 y_.1 rfl (by omega) (by omega)).mono ?_;rintro e w4 ⟨rfl,hm4,kQ⟩;have BB:=jP hm4;have Eu:=jP (RV.1.jS kQ (by simpa using fun e=>hgn (by simp[e])) (by simpa using fun e=>hgn (by simp[e])) (by simpa using fun e=>hgn (by simp[e])));have lC:=jP ((mX.1.more (T:=[g,lk,ls,lo]) (by simp +contextual)).trans (kQ.more (T:=[g,lk,ls,lo]) (by simp)));clear hm4 kQ;go_wp2_with fail
 go_ret
 exact⟨rfl,BB.1,Eu.1,lC.1⟩
end
end Go.Proofs.YtkachcflifhgiaaGreatDoor
namespace Go.Proofs.YtkachcflifhgiaaGreatDoor
open Go Go.RowKit Go.Shelf
theorem Ti (ls n i:Nat)(S:List kU)(f:Value)(w:World)(h:pR w ls S)(hl:S.length=n)(hn:n<=100000)(hi:i<n)(hn2:2<=n)(hfree:∀ s,S[(i+1)%n]?=some s->s.u=false) :
  Calls Tryz.prog 226 #[.slice (some ⟨ls,0,none⟩) n n,.int .i64 (i:Int),f] w fun e w'=>e=.returned (.tuple #[])/\pR w' ls (S.set i kU.none)/\jR [ls] w w':=by
 obtain⟨s,hs⟩:∃ s,S[i]?=some s:=⟨_,au (by rw[hl];exact hi)⟩;obtain⟨s0,s1⟩:=h.cell hs;have f0:w.frozen? ⟨ls,i*2,none⟩=false:=h.frozen _;have f1:w.frozen? ⟨ls,i*2+1,none⟩=false:=h.frozen _;have HS:=jP h;have hml:(i+1)%n<n:=Nat.mod_lt _ (by omega);have hmi:(i+1)%n≠i:=by
  by_cases e:i+1=n
  ·rw[e,Nat.mod_self];omega
  ·rw[Nat.mod_eq_of_lt (by omega)];omega
 have hmm:(((i:Int)+1)%(n:Int))=(((i+1)%n:Nat):Int):=by rw[Int.natCast_emod];rfl
 have HS2:=jP (show pR ((w.setCell ⟨ls,i*2,none⟩ (.bool false)).setCell ⟨ls,i*2+1,none⟩ (.string ⟨#[]⟩)) ls (S.set i kU.none) from HS.1.set i kU.none);have lG:=jP (((jR.refl [ls] w).setCell (p:=⟨ls,i*2,none⟩) (.inl (by simp)) (.bool false)).setCell (p:=⟨ls,i*2+1,none⟩) (.inl (by simp)) (.string ⟨#[]⟩));obtain⟨t,ht⟩:∃ t,(S.set i kU.none)[(i+1)%n]?=some t:=⟨_,au (by rw[dU,hl];exact hml)⟩;have htu:t.u=false:=by
  rw[g_ hmi.symm] at ht;exact hfree t ht
 obtain⟨t0,t1⟩:=HS2.1.cell ht;rw[htu] at t0;generalize (i+1)%n=j at *;have pU:=jP hmm;clear hs ht htu t1 hfree h hmm hmi;go_enter Tryz.func226,Tryz.ntmps226
 go_wp2_with fail
 rw[pU.1];generalize ((w.setCell ⟨ls,i*2,none⟩ (.bool false)).setCell ⟨ls,i*2+1,none⟩ (.string ⟨#[]⟩))=w2 at *;clear s0 s1 f0 f1;refine fG 1 ?_;rw[dN];go_wp2_with fail
 go_end0
 exact⟨rfl,HS2.1,lG.1⟩
theorem nI.slots {w w':World}{g ls lo n u:Nat}{S S':List kU}{O:List Int}(h:nI w g ls lo n S O u)(ho:jR [ls] w w')(hs:pR w' ls S')(hl:S'.length=n):nI w' g ls lo n S' O u:=
 ⟨h.k.jS ho (by simp;exact h.d1),hs,Bk.jS h.o ho (by simp;exact h.d3.symm),hl,h.no,h.d1,h.d2,h.d3⟩
theorem O1 (g ls lo n u at_:Nat)(S:List kU)(O:List Int)(key:ByteArray)(c:Int)(w:World)(h:nI w g ls lo n S O (u+1))(hn2:2<=n)(hn:n<=100000)(hk:key.size<=1000000)
  (hf:Sl.find (qH n) S key=(at_,true)) (hat:at_<n) (hoc:O[at_]?=some c) (hfree:(Sl.gt S ((at_+1)%n)).u=false) (hu:u+1<=n) (c0:0<=c) (c1:c<64) :
  Calls Tryz.prog 167 #[.pointer (some ⟨g,0,none⟩),.string key,.int .i64 c] w fun e w'=>e=.returned (.int .i64 0)/\nI w' g ls lo n (S.set at_ kU.none) O u/\jR [g,ls,lo] w w':=by
 have HF:=jP (fun w hS=>yw ls n n S key w hS h.ns (by omega) hn hk ((at_+1)%n) (Nat.mod_lt _ (by omega)) hfree);rw[hf] at HF;have HRM:=jP (fun w f hS=>Ti ls n at_ S f w hS h.ns hn hat hn2 (fun s hs=>by rw[<-(Sl.adX hs).1];exact hfree));have HOC:=jP hoc;have HS:=jP (show nI (w.alloc (.cells #[.pointer (some ⟨g,0,none⟩)] 158)) g ls lo n S O (u+1) from h.below (((ai w.heap.size w)).alloc (ag _) _) (ag _));have qy:=jP (Bk.new w 158 #[.pointer (some ⟨g,0,none⟩)]);have nT:=jP ((jR.refl [g,ls,lo] w).alloc (.cells #[.pointer (some ⟨g,0,none⟩)] 158));have hgw:g<w.heap.size:=h.k.lt;have hlw:ls<w.heap.size:=h.s.lt;have b0:(w.alloc (.cells #[.pointer (some ⟨g,0,none⟩)] 158)).cell? ⟨w.heap.size,0,none⟩=some (.pointer (some ⟨g,0,none⟩)):=qy.1.cell 0;have k0:(w.alloc (.cells #[.pointer (some ⟨g,0,none⟩)] 158)).cell? ⟨g,0,none⟩=some (.slice (some ⟨ls,0,none⟩) n n):=HS.1.k.cell 0;clear hfree hf h hoc;go_enter Tryz.func167,Tryz.ntmps167
 go_wp2_with fail
 refine (Nq c c0 c1 _).mono ?_;rintro e w1 ⟨rfl,rfl⟩;go_wp2_with fail
 refine (HF.1 _ HS.1.s).mono ?_;rintro e w2 ⟨rfl,hb2⟩;have HS2:=jP (HS.1.below hb2 (ag _));have wF:=jP (qy.1.below hb2 qy.1.lt);have lG:=jP (nT.1.trans (jR.below (S:=[g,ls,lo]) hb2 (ag _)));have hs2:w.heap.size+1<=w2.heap.size:=by have:=hb2.size;simp at this;omega
 clear hb2 k0 b0;have b0:w2.cell? ⟨w.heap.size,0,none⟩=some (.pointer (some ⟨g,0,none⟩)):=wF.1.cell 0;have k0:w2.cell? ⟨g,0,none⟩=some (.slice (some ⟨ls,0,none⟩) n n):=HS2.1.k.cell 0;have k1:w2.cell? ⟨g,1,none⟩=some (.slice (some ⟨lo,0,none⟩) n n):=HS2.1.k.cell 1;have o0:=HS2.1.o.cell HOC.1;have hcc:(c != c)=false:=by simp
 go_wp2_with fail
 refine (HRM.1 _ _ HS2.1.s).mono ?_;rintro e w3 ⟨rfl,hs3,ho3⟩;have mg:=jP (HS2.1.slots ho3 hs3 (by rw[dU];exact HS2.1.ns));have Sm:=jP (wF.1.jS ho3 (by simp;omega));have mX:=jP (lG.1.trans (ho3.more (by simp)));clear hs3 ho3 b0 k0 k1 o0;have b0:w3.cell? ⟨w.heap.size,0,none⟩=some (.pointer (some ⟨g,0,none⟩)):=Sm.1.cell 0;have k2:w3.cell? ⟨g,2,none⟩=some (.int .i64 ((u+1:Nat):Int)):=mg.1.k.cell 2;have f3:w3.frozen? ⟨g,2,none⟩=false:=mg.1.k.frozen _;go_wp2
 go_ret
 exact⟨rfl,mg.1.used _ _ (by omega),mX.1.setCell (p:=⟨g,2,none⟩) (.inl (by simp)) _⟩
variable {Vt:TV}
theorem Oc {n i j:Nat}{t:kU}(hi:i<n)(hij:i≠j):(Sl.gt ((mM n).set i t) j).u=false:=by
 rw[Sl.JP (by rw[BV];exact hi),ah hij];exact yS
section
variable {g s lk st ls lo ss sr q B:Nat} {n lim now cnt:Int} {cl ph:Int} {tx:ByteArray} {op ttl:Int} {cq cr:Nat} {rv:Value} {at_:Int} {p:Rs} {x:Nm} {w:World} {O:List Int} {S:List kU} {R:List Rc} {u:Nat}
theorem X_ (h:kC Vt w g cl 6 tx op ttl (.slice (some ⟨q,0,none⟩) 1 cq) 0 rv p)(hs:mJ w s n lim now cnt lk st)(hl:nI w lk ls lo 2048 ((mM 2048).set (oU x.k 2048) ⟨true,x.k⟩) O 1)
  (hO:O[oU x.k 2048]?=some cl) (hn:Rd w B 3 (some ⟨q,0,none⟩) 1 (lq [x])) (hk:x.k.size<=1000000) (c0:0<=cl) (c1:cl<64) :
  Calls Tryz.prog 101 #[.pointer (some ⟨g,0,none⟩),.pointer (some ⟨s,0,none⟩)] w fun e w'=>e=.returned (.int .i64 1)/\kC Vt w' g cl 7 tx op ttl (.slice (some ⟨q,0,none⟩) 1 cq) 0 rv p /\
   nI w' lk ls lo 2048 (mM 2048) O 0/\jR [g,lk,ls,lo] w w':=by
 have hgn:g∉[lk,ls,lo]:=by
  simp;exact⟨Bk.ne h.bk hl.k (by decide),Bk.ne h.bk hl.s (by decide),Bk.ne h.bk hl.o (by decide)⟩
 have hsn:s∉[lk,ls,lo]:=by
  simp;exact⟨Bk.ne hs.bk hl.k (by decide),Bk.ne hs.bk hl.s (by decide),Bk.ne hs.bk hl.o (by decide)⟩
 have x0:=hs.c4;have x1:=h.ccl;have x2:=h.FB;have HM:=jP h;have HS:=jP hs;have HL:=jP hl;have HN:=jP hn;clear h hs hl hn;have hlt:=yj x.k 2048 (by omega);have hnx:oU x.k 2048≠(oU x.k 2048+1)%2048:=by omega
 have adl:=jP (fun w (hl:nI w lk ls lo 2048 ((mM 2048).set (oU x.k 2048) ⟨true,x.k⟩) O (0+1))=>O1 lk ls lo 2048 0 (oU x.k 2048) ((mM 2048).set (oU x.k 2048) ⟨true,x.k⟩) O x.k cl w hl (by omega) (by omega) hk (acJ 2048 (by omega) x.k) hlt hO (Oc hlt hnx) (by omega) c0 c1);go_enter ja,iM
 go_wp2_with fail
 go_region_held3 (fun w'=>w'.cell? ⟨s,4,none⟩=some (.pointer (some ⟨lk,0,none⟩))/\w'.cell? ⟨g,12,none⟩=some (.int .i64 cl))
  (first
   | with_reducible exact mg.1
   | exact⟨x0,x1⟩
   | go_keep
   | fail)
  (first
   | (go_at_call 163;refine (Gz (show kC Vt w.drew g cl 6 tx op ttl (.slice (some ⟨q,0,none⟩) 1 cq) 0 rv p from HM.1) (show Rd w.drew B 3 (some ⟨q,0,none⟩) 1 (lq [x]) from HN.1)).mono ?_;rintro e w1 ⟨rfl,m,rfl⟩)
   | (go_at_call 167;refine (adl.1 _ (HL.1.drewN _)).mono ?_;rintro e w3 ⟨rfl,hl3,ho3⟩;have mg:=jP (show w3.cell? ⟨s,4,none⟩=some (.pointer (some ⟨lk,0,none⟩))/\w3.cell? ⟨g,12,none⟩=some (.int .i64 cl) from ⟨(ho3.cell (p:=⟨s,4,none⟩) HS.1.lt hsn).trans x0,(ho3.cell (p:=⟨g,12,none⟩) HM.1.lt hgn).trans x1⟩)))
 have ho:jR [lk,ls,lo] w w3:=((jR.refl _ w).drewN (1+m)).trans ho3;rw[ZF 2048 _ _ hlt] at hl3;have y_:=jP (HM.1.jS ho hgn);have mX:=jP ho;have RV:=jP hl3;clear ho ho3 hl3 x0 x1 x2 HL HN mg;go_wp2_with fail
 refine (BP 7 y_.1 rfl (by omega) (by omega)).mono ?_;rintro e w4 ⟨rfl,hm4,kQ⟩;have BB:=jP hm4;have Eu:=jP (RV.1.jS kQ (by simpa using fun e=>hgn (by simp[e])) (by simpa using fun e=>hgn (by simp[e])) (by simpa using fun e=>hgn (by simp[e])));have lC:=jP ((mX.1.more (T:=[g,lk,ls,lo]) (by simp +contextual)).trans (kQ.more (T:=[g,lk,ls,lo]) (by simp)));clear hm4 kQ;go_wp2_with fail
 go_ret
 exact⟨rfl,BB.1,Eu.1,lC.1⟩
theorem VO (h:kC Vt w g cl 7 tx op ttl (.slice (some ⟨q,0,none⟩) 1 cq) 0 rv p)(s:Nat) :
  Calls Tryz.prog 101 #[.pointer (some ⟨g,0,none⟩),.pointer (some ⟨s,0,none⟩)] w fun e w'=>e=.returned (.int .i64 4)/\kC Vt w' g cl 0 tx op ttl (.slice (some ⟨q,0,none⟩) 1 cq) 0 rv p/\jR [g] w w':=by
 have x2:=h.FB;have HM:=jP h;clear h;go_enter ja,iM
 go_wp2_with fail
 refine (uf 0 HM.1).mono ?_;rintro e w4 ⟨rfl,hm4,kQ⟩;have BB:=jP hm4;have lC:=jP kQ;clear hm4 kQ;go_wp2_with fail
 go_ret
 exact⟨rfl,BB.1,lC.1⟩
theorem VP {o t:Int}{nm:List UInt8}(s:Nat){nv:Value}(h:kC Vt w g cl 1 tx op ttl nv at_ rv p)(hq:Rq.parse (lst tx)=⟨o,t,[nm],0⟩){T:Gm.Tab}{B0 k0:Nat}{x:Nm}(htb:j_ w B0 Vt T)(hB0:B0<=w.heap.size)(hn:(str nm).size<=1000000)(hmk:Gm.make T [str nm]=([(x,k0)],Rs.fine)) :
  Calls Tryz.prog 101 #[.pointer (some ⟨g,0,none⟩),.pointer (some ⟨s,0,none⟩)] w fun e w'=>∃ q c,e=.returned (.int .i64 1)/\kC Vt w' g cl 2 tx o t (.slice (some ⟨q,0,none⟩) 1 c) 0 rv p /\
   w'.ownsRow w.heap.size 30 3 (.slice (some ⟨q,0,none⟩) 1 c) 1 (lq [x])/\jR [g] w w':=by
 have x2:=h.FB;have HM:=jP h;clear h;go_enter ja,iM
 go_wp2_with fail
 refine (YP HM.1 hq htb hB0 hn hmk).mono ?_;rintro e w4 ⟨q,c,rfl,hm4,hr4,kQ⟩;have BB:=jP hm4;have HR4:=jP hr4;have lC:=jP kQ;clear hm4 kQ hr4;go_wp2_with fail
 go_ret
 exact⟨q,c,rfl,BB.1,HR4.1,lC.1⟩
theorem VN {br:Nat}{r:Rc}{S':List kU}{R':List Rc}{u':Nat}(h:kC Vt w g cl 5 tx op ttl (.slice (some ⟨q,0,none⟩) 1 cq) 0 (.slice (some ⟨br,0,none⟩) 1 cr) p)(hs:mJ w s n lim now cnt lk st)(ht:lW w st ss sr 16 S R u)
  (hP:∀ w',lW w' st ss sr 16 S R u->Calls Tryz.prog 166 #[.pointer (some ⟨st,0,none⟩),.string x.k,.agg r.arr] w' fun e w''=>e=.returned (.int .i64 0)/\lW w'' st ss sr 16 S' R' u'/\jR [st,ss,sr] w' w'')
  (hn:Rd w B 3 (some ⟨q,0,none⟩) 1 (lq [x])) (hr:Rd w B 4 (some ⟨br,0,none⟩) 1 (nH [r])) (hB:B<=w.heap.size) (hb:br∉[st,ss,sr]) :
  Calls Tryz.prog 101 #[.pointer (some ⟨g,0,none⟩),.pointer (some ⟨s,0,none⟩)] w fun e w'=>e=.returned (.int .i64 1)/\kC Vt w' g cl 6 tx op ttl (.slice (some ⟨q,0,none⟩) 1 cq) 0 (.slice (some ⟨br,0,none⟩) 1 cr) p /\
   lW w' st ss sr 16 S' R' u'/\jR [g,st,ss,sr] w w':=by
 have hgn:g∉[st,ss,sr]:=by
  simp;exact⟨Bk.ne h.bk ht.k (by decide),Bk.ne h.bk ht.s (by decide),Bk.ne h.bk ht.r (by decide)⟩
 have hsn:s∉[st,ss,sr]:=by
  simp;exact⟨Bk.ne hs.bk ht.k (by decide),Bk.ne hs.bk ht.s (by decide),Bk.ne hs.bk ht.r (by decide)⟩
 obtain⟨b',o',e',hbB,r0,r1,r2,r3⟩:=DR hr;injection e' with e';injection e' with e1 e2 _
 subst e1;subst e2;have x0:=hs.c5;have x1:=h.Np;have x2:=h.cat;have x3:=h.FB;have HM:=jP h;have HS:=jP hs;have HT:=jP ht;have HN:=jP hn;have HP:=jP hP;have hbw:br<w.heap.size:=aG hbB hB;clear h hs ht hn hr hP;simp only[bf] at r0 r1 r2 r3;go_enter ja,iM
 go_wp2_with fail
 go_region_held3 (fun w'=>w'.cell? ⟨s,5,none⟩=some (.pointer (some ⟨st,0,none⟩))/\w'.cell? ⟨g,19,none⟩=some (.slice (some ⟨br,0,none⟩) 1 cr)/\w'.cell? ⟨g,18,none⟩=some (.int .i64 0)/\w'.cell? ⟨br,0,none⟩=some (.int .i64 r.st)/\w'.cell? ⟨br,1,none⟩=some (.int .i64 r.ow)/\w'.cell? ⟨br,2,none⟩=some (.string r.nm)/\w'.cell? ⟨br,3,none⟩=some (.int .i64 r.dl))
  (first
   | with_reducible exact mg.1
   | exact⟨x0,x1,x2,r0,r1,r2,r3⟩
   | go_keep
   | fail)
  (first
   | (go_at_call 163;refine (Gz (show kC Vt w.drew g cl 5 tx op ttl (.slice (some ⟨q,0,none⟩) 1 cq) 0 (.slice (some ⟨br,0,none⟩) 1 cr) p from HM.1) (show Rd w.drew B 3 (some ⟨q,0,none⟩) 1 (lq [x]) from HN.1)).mono ?_;rintro e w1 ⟨rfl,m,rfl⟩)
   | (go_at_call 166;refine (HP.1 _ (HT.1.drewN _)).mono ?_;rintro e w3 ⟨rfl,ht3,ho3⟩;have mg:=jP (show w3.cell? ⟨s,5,none⟩=some (.pointer (some ⟨st,0,none⟩))/\w3.cell? ⟨g,19,none⟩=some (.slice (some ⟨br,0,none⟩) 1 cr)/\w3.cell? ⟨g,18,none⟩=some (.int .i64 0)/\w3.cell? ⟨br,0,none⟩=some (.int .i64 r.st)/\w3.cell? ⟨br,1,none⟩=some (.int .i64 r.ow)/\w3.cell? ⟨br,2,none⟩=some (.string r.nm)/\w3.cell? ⟨br,3,none⟩=some (.int .i64 r.dl) from ⟨(ho3.cell (p:=⟨s,5,none⟩) HS.1.lt hsn).trans x0,(ho3.cell (p:=⟨g,19,none⟩) HM.1.lt hgn).trans x1,(ho3.cell (p:=⟨g,18,none⟩) HM.1.lt hgn).trans x2,(ho3.cell (p:=⟨br,0,none⟩) hbw hb).trans r0,(ho3.cell (p:=⟨br,1,none⟩) hbw hb).trans r1,(ho3.cell (p:=⟨br,2,none⟩) hbw hb).trans r2,(ho3.cell (p:=⟨br,3,none⟩) hbw hb).trans r3⟩)))
 have ho:jR [st,ss,sr] w w3:=((jR.refl _ w).drewN (1+m)).trans ho3;have y_:=jP (HM.1.jS ho hgn);have mX:=jP ho;have HT3:=jP ht3;clear ho ho3 ht3 x0 x1 x2 x3 r0 r1 r2 r3 HT HN mg;go_wp2_with fail
 refine (BP 6 y_.1 rfl (by omega) (by omega)).mono ?_;rintro e w4 ⟨rfl,hm4,kQ⟩;have BB:=jP hm4;have HT4:=jP (HT3.1.jS kQ (by simpa using fun e=>hgn (by simp[e])) (by simpa using fun e=>hgn (by simp[e])) (by simpa using fun e=>hgn (by simp[e])));have lC:=jP ((mX.1.more (T:=[g,st,ss,sr]) (by simp +contextual)).trans (kQ.more (T:=[g,st,ss,sr]) (by simp)));clear hm4 kQ;go_wp2_with fail
 go_ret
 exact⟨rfl,BB.1,HT4.1,lC.1⟩
end
end Go.Proofs.YtkachcflifhgiaaGreatDoor
namespace Go.Proofs.YtkachcflifhgiaaGreatDoor
open Go Go.RowKit Go.Shelf
variable {Vt:TV}
section
variable {g s lk st q:Nat} {n lim now cnt:Int} {cl:Int} {tx:ByteArray} {ttl:Int} {cq cr:Nat} {p:Rs} {B:Nat} {x:Nm} {r:Rc} {w:World}
theorem X9 {Ar:Option Addr}(hlv:r.live now=true)(t1:1<=ttl)(t2:now+ttl<=1073741824)
  (h:kC Vt w g cl 4 tx 1 ttl (.slice (some ⟨q,0,none⟩) 1 cq) 0 (.slice Ar 1 cr) p) (hs:mJ w s n lim now cnt lk st)
  (hn:Rd w B 3 (some ⟨q,0,none⟩) 1 (lq [x])) (hr:Rd w B 4 Ar 1 (nH [r])) (hB:B<=w.heap.size) (hst:r.st=0\/r.st=1) (h0:0<=now) (hcnt:0<=cnt/\cnt<=1000) :
  Calls Tryz.prog 101 #[.pointer (some ⟨g,0,none⟩),.pointer (some ⟨s,0,none⟩)] w fun e w'=>e=.returned (.int .i64 3)/\kC Vt w' g cl 6 tx 1 ttl (.slice (some ⟨q,0,none⟩) 1 cq) 0 (.slice Ar 1 cr) ⟨24,0,x.a,Rc.none,now⟩ /\
   mJ w' s n lim now cnt lk st/\jR [g,s] w w':=by
 have x2:=h.FB;have hgs:g≠s:=Bk.ne h.bk hs.bk (by decide);have HD:=jP (PR hlv t1 t2 h hs hgs hn hr hB hst h0 hcnt);clear h hs hn hr;go_enter ja,iM
 go_wp2_with fail
 refine HD.1.mono ?_;rintro e w4 ⟨rfl,hm,hs,ho⟩;have HM:=jP hm;have HS:=jP hs;have HO:=jP ho;clear hm hs ho;go_wp2_with fail
 go_ret
 exact⟨rfl,HM.1,HS.1,HO.1⟩
theorem X8 {br ql:Nat}{gr:Int}(hAr:br∉[g,s])(hlv:r.live now=false)(t1:1<=ttl)(t2:now+ttl<=1073741824)(hgr:1-r.st=gr)(hcap:(gr=1/\cnt<lim)\/gr=0)
  (h:kC Vt w g cl 4 tx 1 ttl (.slice (some ⟨q,0,none⟩) 1 cq) 0 (.slice (some ⟨br,ql,none⟩) 1 cr) p) (hs:mJ w s n lim now cnt lk st)
  (hn:Rd w B 3 (some ⟨q,0,none⟩) 1 (lq [x])) (hr:Rd w B 4 (some ⟨br,ql,none⟩) 1 (nH [r])) (hB:B<=w.heap.size) (hst:r.st=0\/r.st=1) (h0:0<=now) (hcnt:0<=cnt/\cnt<=1000) :
  Calls Tryz.prog 101 #[.pointer (some ⟨g,0,none⟩),.pointer (some ⟨s,0,none⟩)] w fun e w'=>∃ A2 c2,e=.returned (.int .i64 3)/\kC Vt w' g cl 5 tx 1 ttl (.slice (some ⟨q,0,none⟩) 1 cq) 0 (.slice A2 1 c2) ⟨0,-1,ByteArray.empty,Rc.none,now⟩ /\
   mJ w' s n lim now (cnt+gr) lk st/\w'.ownsRow w.heap.size 41 4 (.slice A2 1 c2) 1 (nH [⟨1,cl,x.a,now+ttl⟩])/\jR [g,s] w w':=by
 have x2:=h.FB;have hgs:g≠s:=Bk.ne h.bk hs.bk (by decide);have HD:=jP (PO hAr hlv t1 t2 hgr hcap h hs hgs hn hr hB hst h0 hcnt);clear h hs hn hr;go_enter ja,iM
 go_wp2_with fail
 refine HD.1.mono ?_;rintro e w4 ⟨A2,c2,rfl,hm,hs,hr,ho⟩;have HM:=jP hm;have HS:=jP hs;have HO:=jP ho;have HR:=jP hr;clear hm hs ho hr;go_wp2_with fail
 go_ret
 exact⟨A2,c2,rfl,HM.1,HS.1,HR.1,HO.1⟩
end
end Go.Proofs.YtkachcflifhgiaaGreatDoor
