/-    -/
import Derived.Test.YtkachcflifhgiaaGreatDoorM25
import Derived.StillTailTactics
import Derived.Deep.AppendLies
import Derived.Deep.RegionLaw
set_option linter.unusedVariables false
set_option maxRecDepth 100000
set_option maxHeartbeats 16000000
namespace Go.Proofs.YtkachcflifhgiaaGreatDoor
open Go Go.RowKit Go.Shelf
variable {Vt:TV}
def nP (w:World)(d s:Nat)(cv:Value)(steps:Int)(ov:Value):Prop:=
 Bk w d 109 #[.pointer (some ⟨s,0,none⟩),cv,.int .i64 steps,ov]
def rJ (w:World)(c b m:Nat)(o:Int):Prop:=
 Bk w c 115 #[.pointer (some ⟨b,0,none⟩),.pointer (some ⟨m,0,none⟩),.int .i64 o]
section
variable {w w':World} {d s c b m:Nat} {cv ov:Value} {steps o:Int} {S:List Nat}
theorem nP.bk (h:nP w d s cv steps ov):Bk w d 109 #[.pointer (some ⟨s,0,none⟩),cv,.int .i64 steps,ov]:=h
theorem nP.lt (h:nP w d s cv steps ov):d<w.heap.size:=h.bk.lt
theorem nP.fr (h:nP w d s cv steps ov)(i:Nat):w.frozen? ⟨d,i,none⟩=false:=h.bk.frozen i
theorem nP.c0 (h:nP w d s cv steps ov):w.cell? ⟨d,0,none⟩=some (.pointer (some ⟨s,0,none⟩)):=h.bk.cell 0
theorem nP.c1 (h:nP w d s cv steps ov):w.cell? ⟨d,1,none⟩=some cv:=h.bk.cell 1
theorem nP.c2 (h:nP w d s cv steps ov):w.cell? ⟨d,2,none⟩=some (.int .i64 steps):=h.bk.cell 2
theorem nP.c3 (h:nP w d s cv steps ov):w.cell? ⟨d,3,none⟩=some ov:=h.bk.cell 3
theorem nP.jS (h:nP w d s cv steps ov)(ho:jR S w w')(hn:d∉S):nP w' d s cv steps ov:=h.bk.jS ho hn
theorem nP.adC (h:nP w d s cv steps ov)(x:Int):nP (w.setCell ⟨d,2,none⟩ (.int .i64 x)) d s cv x ov:=h.bk.kM 2 _
theorem nP.scv (h:nP w d s cv steps ov)(x:Value):nP (w.setCell ⟨d,1,none⟩ x) d s x steps ov:=h.bk.kM 1 _
theorem nP.sov (h:nP w d s cv steps ov)(x:Value):nP (w.setCell ⟨d,3,none⟩ x) d s cv steps x:=h.bk.kM 3 _
theorem rJ.bk (h:rJ w c b m o):Bk w c 115 #[.pointer (some ⟨b,0,none⟩),.pointer (some ⟨m,0,none⟩),.int .i64 o]:=h
theorem rJ.lt (h:rJ w c b m o):c<w.heap.size:=h.bk.lt
theorem rJ.fr (h:rJ w c b m o)(i:Nat):w.frozen? ⟨c,i,none⟩=false:=h.bk.frozen i
theorem rJ.c0 (h:rJ w c b m o):w.cell? ⟨c,0,none⟩=some (.pointer (some ⟨b,0,none⟩)):=h.bk.cell 0
theorem rJ.c1 (h:rJ w c b m o):w.cell? ⟨c,1,none⟩=some (.pointer (some ⟨m,0,none⟩)):=h.bk.cell 1
theorem rJ.c2 (h:rJ w c b m o):w.cell? ⟨c,2,none⟩=some (.int .i64 o):=h.bk.cell 2
theorem rJ.jS (h:rJ w c b m o)(ho:jR S w w')(hn:c∉S):rJ w' c b m o:=h.bk.jS ho hn
theorem rJ.so (h:rJ w c b m o)(x:Int):rJ (w.setCell ⟨c,2,none⟩ (.int .i64 x)) c b m x:=h.bk.kM 2 _
end
structure Opn where
 cl:Int
 op:Int
 ttl:Int
 nA:Option Addr
 nn:Nat
 nc:Nat
 bad:Rs
 begun:Int
 dec:Int
 ans:Int
 kP:Rs
def Opn.cells (o:Opn):List Value:=[.int .i64 o.cl,.int .i64 o.op,.int .i64 o.ttl,.slice o.nA o.nn o.nc]++o.bad.cells++[.int .i64 o.begun,.int .i64 o.dec,.int .i64 o.ans]++o.kP.cells
def opC (l:List Opn):List Value:=l.flatMap Opn.cells
theorem Opn.qp (o:Opn):o.cells.length=23:=by simp[Opn.cells,Rs.cells]
theorem vP (l:List Opn):(opC l).length=l.length*23:=by
 induction l with
 | nil=>rfl
 | cons a r ih=>simp[opC,Opn.qp] at *;omega
theorem afe (l:List Opn):∀ u∈opC l,u.oneCell'=true:=by
 intro u hu;simp[opC] at hu;obtain⟨a,_,hn⟩:=hu;simp[Opn.cells,Rs.cells] at hn;rcases hn with rfl | rfl | rfl | rfl | rfl | rfl | rfl | rfl | rfl | rfl | rfl | rfl | rfl | rfl | rfl | rfl | rfl | rfl | rfl | rfl | rfl | rfl | rfl<;>rfl
theorem WA (l m:List Opn):opC (l++m)=opC l++opC m:=by simp[opC]
theorem ab7:(Tryz.prog.info? 65).map (fun i=>(i.zero,i.size,i.bytes))=some (some (.agg #[.int .i64 0,.int .i64 0,.int .i64 0,.slice none 0 0,.int .i64 0,.int .i64 0,.string ⟨#[]⟩,.int .i64 0,.int .i64 0,.string ⟨#[]⟩,.int .i64 0,.int .i64 0,.int .i64 0,.int .i64 0,.int .i64 0,.int .i64 0,.int .i64 0,.string ⟨#[]⟩,.int .i64 0,.int .i64 0,.string ⟨#[]⟩,.int .i64 0,.int .i64 0]),23,232):=by kernel_rfl
theorem Vj {w:World}{ops:Array Oper}{rest:List Oper}{o:Oper}{a:Act}{Q:Exit->Act->World->Prop}(hw:Region.wanted o (yielded ops a.tmps)=true)(s x:Operand)
  (ho:o.op=.call { callee:=.builtin .append,args:=#[s,x],argTypes:=#[61,61] })
  {base:Nat} {v:Value} {n:Nat} {xs:List Opn} (hs:a.eval s=v) (hown:w.ownsRow base 65 23 v n (opC xs))
  {B:Nat} {A:Option Addr} {m c:Nat} {ys:List Opn} (hx:a.eval x=.slice A m c) (hr:Rd w B 23 A m (opC ys))
  (hlen:n+m<=100000000) (hbase:base<=w.heap.size)
  (h:∀ A' c' w',w'.ownsRow base 65 23 (.slice A' (n+m) c') (n+m) (opC (xs++ys))->w.grownBy w' v.ownBlock ->
   ((Value.slice A' (n+m) c').ownBlock=v.ownBlock\/(Value.slice A' (n+m) c').ownBlock=some w.heap.size)->wpList Tryz.prog ops Q rest (a.put o.dst (.slice A' (n+m) c')) w') :
  wpList Tryz.prog ops Q (o::rest) a w:=by
 obtain⟨i0,hi,hz0,hz1,hz2⟩:=dR ab7;refine rV hw s x _ ho base _ i0 _ 23 232 Tryz.underlying61 hi hz0 hz1 hz2 rfl (by decide) v n (opC xs) hs hown B A m c (opC ys) hx hr (afe ys)
  (by unfold maxLen;omega) (by omega) hbase ?_
 intro v' w' h2 h3 h4;obtain⟨A',c',rfl⟩:=o7 h2;rw[<-WA] at h2;exact h A' c' w' h2 h3 h4
theorem Jr {w:World}{z:Nat}(hz:w.heap.size=z)(o:Opn):Rd (w.alloc (.cells o.cells.toArray 65)) (z+1) 23 (some ⟨z,0,none⟩) 1 (opC [o]):=by
 subst hz;have hb:=Bk.new w 65 o.cells.toArray;refine⟨by rw[vP];rfl,fun _=>⟨w.heap.size,0,rfl,by omega,fun j u hu=>?_⟩⟩;rw[bf,hb.cell];simpa[opC] using hu
end Go.Proofs.YtkachcflifhgiaaGreatDoor
namespace Go.Proofs.YtkachcflifhgiaaGreatDoor
open Go Go.RowKit Go.Shelf
variable {Vt:TV}
theorem afA {w:World}{d s:Nat}{A:Option Addr}{n c:Nat}{steps:Int}{ov:Value}(i:Int)(h:nP w d s (.slice A n c) steps ov)(h0:0<=i)(h1:i<n)(hn:n<=1000) :
  Calls Tryz.prog 46 #[.pointer (some ⟨d,0,none⟩),.int .i64 i] w fun e w'=>e=.returned (.bool true)/\w'=w:=by
 have c1:=h.c1;clear h;go_enter Tryz.func46,Tryz.ntmps46
 go_wp2_with fail
 go_ret
 exact⟨rfl,rfl⟩
end Go.Proofs.YtkachcflifhgiaaGreatDoor
namespace Go.Proofs.YtkachcflifhgiaaGreatDoor
open Go Go.RowKit Go.Shelf
variable {Vt:TV}
theorem SL {ops:Array Oper}{o:Oper}{a:Act}{w:World}{K:Act->World->Prop}{Q:Exit->Act->World->Prop}{E:Prop}(hgd:o.guard=none)(s x:Operand)
  (ho:o.op=.call { callee:=.builtin .append,args:=#[s,x],argTypes:=#[57,57] })
  {base z c:Nat} {r:Rc} (hs:a.eval s=.slice none 0 0) (hx:a.eval x=.slice (some ⟨z,0,none⟩) 1 c) (hb:Bk w z 41 (m_ r.st r.ow r.nm r.dl)) (hbase:base<=w.heap.size)
  (h:∀ g cap w',w'.ownsRow base 41 4 (.slice (some ⟨g,0,none⟩) 1 cap) 1 (nH [r])->Below w.heap.size w w'->K (a.put o.dst (.slice (some ⟨g,0,none⟩) 1 cap)) w') :
  if Region.wanted o (yielded ops a.tmps)=true then Oper.wp Tryz.prog o a w K Q else E:=by
 obtain⟨i0,hi,hz0,hz1,hz2⟩:=dR IK;refine step_append_lies w hgd s x 57 ho base _ i0 _ 4 40 Tryz.underlying57 hi hz0 hz1 hz2 rfl (by decide) (.slice none 0 0) 0 [] hs (aH _ _ _ _) ⟨z,0,none⟩ 1 c (nH [r]) hx (by simp[nH,Rc.cells])
  ?_ (Ul _) (by omega) (by unfold maxLen;omega) (by omega) hbase w.heap.size rfl ?_
 ·have:=World.news_of_block hb;simpa[nH,Rc.cells] using this
 ·intro g cap w' h1 h2 _ _;exact h g cap w' (by simpa using h1) ((ai _ _).grown h2 (ag _) (fun k hk=>by cases hk))
section
variable {g s lk st ls lo ss sr q B:Nat} {n lim now cnt:Int} {cl ph:Int} {tx:ByteArray} {op ttl:Int} {cq cr:Nat} {p:Rs} {x:Nm} {w:World} {S:List kU} {R:List Rc} {u:Nat}
theorem X6 {r:Rc}(h:kC Vt w g cl 3 tx op ttl (.slice (some ⟨q,0,none⟩) 1 cq) 0 (.slice none 0 0) p)(hs:mJ w s n lim now cnt lk st)(ht:lW w st ss sr 16 S R u)(hr:CW 16 S R x.k=r)
  (hat:(Sl.find (qH 16) S x.k).1<16) (z:Nat) (hz:z<16) (hfree:(Sl.gt S z).u=false) (hk:x.k.size<=1000000) (hn:Rd w B 3 (some ⟨q,0,none⟩) 1 (lq [x])) :
  Calls Tryz.prog 101 #[.pointer (some ⟨g,0,none⟩),.pointer (some ⟨s,0,none⟩)] w fun e w'=>∃ b c,e=.returned (.int .i64 1)/\kC Vt w' g cl 4 tx op ttl (.slice (some ⟨q,0,none⟩) 1 cq) 0 (.slice (some ⟨b,0,none⟩) 1 c) p /\
   w'.ownsRow w.heap.size 41 4 (.slice (some ⟨b,0,none⟩) 1 c) 1 (nH [r])/\jR [g] w w':=by
 have x0:=hs.c5;have x1:=h.Np;have x3:=h.FB;have f1:=h.fr 19;have hgl:=h.lt;have hsl:=hs.lt;have HM:=jP h;have HS:=jP hs;have HT:=jP ht;have HN:=jP hn;have HG:=jP (fun w' (h:lW w' st ss sr 16 S R u)=>get_any st ss sr 16 u S R x.k w' h (by omega) (by omega) hk hat z hz hfree);rw[hr] at HG;clear h hs ht hn;go_enter ja,iM
 go_wp2_with fail
 go_region_law (first
   | (go_simp;go_at_call 163;refine (Gz (show kC Vt w.drew g cl 3 tx op ttl (.slice (some ⟨q,0,none⟩) 1 cq) 0 (.slice none 0 0) p from HM.1) (show Rd w.drew B 3 (some ⟨q,0,none⟩) 1 (lq [x]) from HN.1)).mono ?_;rintro e w1 ⟨rfl,m,rfl⟩)
   | (go_simp;go_at_call 108;refine (HG.1 _ (HT.1.drewN _)).mono ?_;rintro e w3 ⟨rfl,hb3⟩;have hz3:w.heap.size<=w3.heap.size:=hb3.size;have hg3:g<w3.heap.size:=aG hgl hz3;have x13:=(hb3.cell (p:=⟨g,19,none⟩) hgl).trans x1;have f13:=(hb3.frozen (p:=⟨g,19,none⟩) hgl).trans f1;have x03:=(hb3.cell (p:=⟨s,5,none⟩) hsl).trans x0;have x1a:=(dD w3 (.cells (m_ r.st r.ow r.nm r.dl) 41) ⟨g,19,none⟩ hg3).trans x13;simp only[Rc.arr])
   | (refine SL rfl (.tmp 35) (.tmp 43) rfl (base:=w.heap.size) (r:=r) rfl rfl (Bk.new w3 _ _) (aK hz3 (by simp)) ?_;intro a1 cap1 w5 oK hb5;have Qq:Below w3.heap.size w3 w5:=(((ai w3.heap.size w3).alloc (ag _) (.cells (m_ r.st r.ow r.nm r.dl) 41)).trans (hb5.mono (by simp)));have x15:=(Qq.cell (p:=⟨g,19,none⟩) hg3).trans x13;have f15:=(Qq.frozen (p:=⟨g,19,none⟩) hg3).trans f13))
 all_goals
  have ahn:jR [g] w w5:=(((jR.refl [g] w).drewN (1+m)).trans (jR.below hb3 (ag _))).trans (jR.below Qq (ag _));have Cm:=jP ((((show kC Vt (w.drewN (1+m)) g cl 3 tx op ttl (.slice (some ⟨q,0,none⟩) 1 cq) 0 (.slice none 0 0) p from HM.1).below hb3 hgl).below Qq hg3).srv (.slice (some ⟨a1,0,none⟩) 1 cap1));have lD:=jP (aQ oK (a:=⟨g,19,none⟩) hgl (.slice (some ⟨a1,0,none⟩) 1 cap1));have uj:=jP (ahn.setCell (p:=⟨g,19,none⟩) (.inl (by simp)) (.slice (some ⟨a1,0,none⟩) 1 cap1));generalize hw6:w5.setCell ⟨g,19,none⟩ (.slice (some ⟨a1,0,none⟩) 1 cap1)=w6 at *;clear hw6 ahn hb3 hb5 Qq oK x0 x1 x3 f1 x13 f13 x03 x1a x15 f15;go_wp2_with fail
  refine (BP 4 Cm.1 rfl (by omega) (by omega)).mono ?_;rintro e w7 ⟨rfl,hm7,mG⟩;have HM7:=jP hm7;have mD:=jP (uG lD.1 mG (by intro i hi;simp at hi;subst hi;exact hgl));have HW7:=jP (uj.1.trans mG);clear hm7 mG;go_wp2_with fail
  go_ret
  exact⟨a1,cap1,rfl,HM7.1,mD.1,HW7.1⟩
end
end Go.Proofs.YtkachcflifhgiaaGreatDoor
