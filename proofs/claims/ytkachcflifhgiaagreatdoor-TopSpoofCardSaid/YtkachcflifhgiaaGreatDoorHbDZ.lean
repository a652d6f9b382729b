/-  -/
import Derived.Test.YtkachcflifhgiaaGreatDoorRows
import Derived.Test.YtkachcflifhgiaaGreatDoorGtBZ
import Derived.Deep.Strs
import Derived.Lib.LaidU8
import Derived.MakeChecks
set_option linter.unusedVariables false
set_option maxRecDepth 100000
set_option maxHeartbeats 16000000
namespace Go.Proofs.YtkachcflifhgiaaGreatDoor
open Go Go.RowKit Go.ChangeShapes Go.WideShapes
theorem U1:Tryz.prog.globalNamed "namedesk/table.blocks" = some 0:=by kernel_rfl
theorem aeB:(Tryz.prog.globals[0]?).map (·.type)=some 23:=by kernel_rfl
theorem PZ {w:World}{n:Nat}{v:Value}{y:DataW Unit×List MemPlace}{z:Int}(h:DataW.trod (fun _=>()) Tryz.prog w 0 (fun _=>true) false n 3 [v]=some y)(hy:y.1=.lit (.int .i64 z)):v=.int .i64 z:=by
 obtain⟨z0,e0,h0,_⟩:=DataW.trod_int bM h;simp at e0;subst e0;rw[h0] at hy;injection hy with hy
 injection hy with _ hy
 rw[hy]
theorem Q3 {W:World} (h:Lib.VarReads Tryz.prog W "namedesk/table.blocks" Rows.laid_namedesk_table_blocks):xg W W.heap.size:=by
 obtain⟨g,t,cs,fuel,p,hg,hty,hvar,hd⟩:=h;obtain rfl:=dF (U1.symm.trans hg);obtain rfl:=dF (aeB.symm.trans hty);have ce:Tryz.prog.cellsOf 82=3:=by kernel_rfl
 have ci:Tryz.prog.cellsOf 3=1:=by kernel_rfl
 rcases Go.Deep.open_slice Tryz.underlying23 hd with ⟨_,hx⟩ | ⟨x,len,cap,m,n,D,Pl,hcs,_,hl,hm,hmm,hx,hall⟩
 ·cases hx
 have hD:([.agg [.lit (.int .i64 0),.lit (.int .i64 127),.lit (.int .i64 0)],.agg [.lit (.int .i64 4352),.lit (.int .i64 4370),.lit (.int .i64 0)],.agg [.lit (.int .i64 4449),.lit (.int .i64 4469),.lit (.int .i64 0)],.agg [.lit (.int .i64 4520),.lit (.int .i64 4546),.lit (.int .i64 0)],.agg [.lit (.int .i64 44032),.lit (.int .i64 55203),.lit (.int .i64 0)],.agg [.lit (.int .i64 55296),.lit (.int .i64 57343),.lit (.int .i64 0)]]:List (DataW Unit))=(List.range len).map D:=by
  have:=aV Prod.fst hx;injection this
 have hlen:len=6:=by
  have:=aV List.length hD;simpa using this.symm
 subst hlen;have zF:6<=m:=by rw[hmm];split<;>omega
 have each:∀ i,i<6->∃ s:Rg.Sn,LQ[i]?=some s/\W.cell? (x.add (i*3))=some (.int .i64 s.f)/\W.cell? (x.add (i*3+1))=some (.int .i64 s.t)/\W.cell? (x.add (i*3+2))=some (.int .i64 s.v):=by
  intro i hi;obtain⟨s,hs⟩:∃ s,LQ[i]?=some s:=⟨_,au (by exact hi)⟩;have hDi:D i=.agg [.lit (.int .i64 s.f),.lit (.int .i64 s.t),.lit (.int .i64 s.v)]:=by
   have h1:=aV (·[i]?) hD;simp only[List.getElem?_map,List.getElem?_range hi,Option.map_some] at h1;match i,hi,hs with
   | 0,_,hs=>obtain rfl:=dF hs;exact (dF h1).symm
   | 1,_,hs=>obtain rfl:=dF hs;exact (dF h1).symm
   | 2,_,hs=>obtain rfl:=dF hs;exact (dF h1).symm
   | 3,_,hs=>obtain rfl:=dF hs;exact (dF h1).symm
   | 4,_,hs=>obtain rfl:=dF hs;exact (dF h1).symm
   | 5,_,hs=>obtain rfl:=dF hs;exact (dF h1).symm
  obtain⟨cs',h1,h2⟩:=hall i (by omega);rw[ce] at h1;obtain⟨_,hlen,hcell⟩:=World.cells?_some h1;obtain⟨y0,y1,y2,k,hy,_,g0,g1,g2⟩:=Go.Deep.trod_struct3 Tryz.underlying82 h2;have hy':(DataW.agg [.lit (.int .i64 s.f),.lit (.int .i64 s.t),.lit (.int .i64 s.v)]:DataW Unit)=.agg [y0.1,y1.1,y2.1]:=by
   rw[<-hDi];exact aV Prod.fst hy
  injection hy' with hy'
  injection hy' with q0 hy'
  injection hy' with q1 hy'
  injection hy' with q2 _
  match cs',hlen with
  | [v0,v1,v2],_=>
   simp[ci] at g0 g1 g2;have e0:=PZ g0 q0.symm;have e1:=PZ g1 q1.symm;have e2:=PZ g2 q2.symm;have c0:=hcell 0 (by omega);have c1:=hcell 1 (by omega);have c2:=hcell 2 (by omega);rw[Go.Deep.add_add] at c0 c1 c2;subst e0;subst e1;subst e2;exact⟨s,hs,by simpa using c0,by simpa using c1,by simpa using c2⟩
 obtain⟨b,off,spot⟩:=x;obtain⟨s0,_,h00,_,_⟩:=each 0 (by omega);have hb0:W.cell? ⟨b,off,spot⟩=some (.int .i64 s0.f):=by simpa[Addr.add] using h00
 have hsp:spot=none:=by simpa using World.cell?_spot hb0
 subst hsp;have hcv:W.cell? ⟨0,0,none⟩=some (.slice (some ⟨b,off,none⟩) 6 cap):=by
  rw[World.var?_cell U1 hvar 0,<-jB,hcs];rfl
 refine⟨World.block_lt_of_cell? W _ hcv,_,_,hcv,rfl,fun _=>⟨b,off,rfl,World.block_lt_of_cell? W _ hb0,fun j u hu=>?_⟩⟩;have hj:j<18:=by have:=(ak.1 hu).1;rw[uQ] at this;exact this
 obtain⟨s,hs,a1,a2,a3⟩:=each (j/3) (by omega);obtain⟨b1,b2,b3⟩:=Ir LQ (j/3) s hs;rw[add_plain] at a1 a2 a3;have hjr:j=j/3*3\/j=j/3*3+1\/j=j/3*3+2:=by omega
 rcases hjr with e | e | e
 ·rw[e] at hu ⊢;rw[b1] at hu;injection hu with hu;subst hu;exact a1
 ·rw[e] at hu ⊢;rw[b2] at hu;injection hu with hu;subst hu;exact a2
 ·rw[e] at hu ⊢;rw[b3] at hu;injection hu with hu;subst hu;exact a3
end Go.Proofs.YtkachcflifhgiaaGreatDoor
