/-  -/
import Derived.Test.YtkachcflifhgiaaGreatDoorProg
import Derived.Test.YtkachcflifhgiaaGreatDoorM03
import Derived.Maps.AppendAt
import Derived.Laws.AppendOwnNone
import Derived.OwnWalk
set_option linter.unusedVariables false
set_option maxRecDepth 100000
set_option maxHeartbeats 16000000
namespace Go.Proofs.YtkachcflifhgiaaGreatDoor
theorem bC:type_of% @Go.Proofs.Tryz.underlying22:=@Go.Proofs.Tryz.underlying22
theorem dI:type_of% @Go.Proofs.Tryz.underlying177:=@Go.Proofs.Tryz.underlying177
theorem dV:type_of% @Go.Proofs.Tryz.ntmps246:=@Go.Proofs.Tryz.ntmps246
theorem eH:type_of% @Go.Proofs.Tryz.func246:=@Go.Proofs.Tryz.func246
theorem eP:type_of% @Go.Proofs.Tryz.underlying4:=@Go.Proofs.Tryz.underlying4
theorem fV:type_of% @Go.Proofs.Tryz.ntmps224:=@Go.Proofs.Tryz.ntmps224
theorem gp:type_of% @Go.Proofs.Tryz.underlying30:=@Go.Proofs.Tryz.underlying30
theorem gG:type_of% @Go.Proofs.Tryz.func224:=@Go.Proofs.Tryz.func224
theorem iH:type_of% @Go.Proofs.Tryz.zeroValue4:=@Go.Proofs.Tryz.zeroValue4
theorem iM:type_of% @Go.Proofs.Tryz.ntmps101:=@Go.Proofs.Tryz.ntmps101
theorem iP:type_of% @Go.Proofs.Tryz.ntmps267:=@Go.Proofs.Tryz.ntmps267
theorem iT:type_of% @Go.Proofs.Tryz.underlying43:=@Go.Proofs.Tryz.underlying43
theorem ja:type_of% @Go.Proofs.Tryz.func101:=@Go.Proofs.Tryz.func101
theorem jb:type_of% @Go.Proofs.Tryz.underlying0:=@Go.Proofs.Tryz.underlying0
theorem jc:type_of% @Go.Proofs.Tryz.func267:=@Go.Proofs.Tryz.func267
theorem jf:type_of% @Go.Proofs.Tryz.ntmps180:=@Go.Proofs.Tryz.ntmps180
theorem jl:type_of% @Go.Proofs.Tryz.zeroValue0:=@Go.Proofs.Tryz.zeroValue0
open Go Go.RowKit
section
variable {P:Program} {w:World}
theorem SV (base:Nat)(t ty e:TypeId)(i:TypeInfo)(size:Nat)(ht:P.underlying t=some (.slice e))(hi:P.info? e=some i)
  (v:Value) (n:Nat) (xs:List Value) (hown:w.ownsRow base e size v n xs) (c:Nat):(Builtin.append_ #[t,t] ty #[v,.slice none 0 c]).run P w=.ok v w:=by
 rcases hown.2 with ⟨rfl,rfl⟩ | ⟨g,cap,cur,rfl,_,_,hnc,_⟩
 ·simp[Builtin.append_,run_underlying ht,sizeOf,typeInfo,hi,Builtin.lenOf,Builtin.firstCells]
 ·simp[Builtin.append_,run_underlying ht,sizeOf,typeInfo,hi,Builtin.lenOf,Builtin.firstCells,hnc,storeCells]
theorem wU (base:Nat)(t ty e:TypeId)(i:TypeInfo)(z:Value)(size bytes:Nat)(ht:P.underlying t=some (.slice e))(hi:P.info? e=some i)(hz:i.zero=some z)
  (hsize:i.size=size) (hby:i.bytes=bytes) (hzs:z.cells.size=size) (hsz:0<size)
  (v:Value) (n:Nat) (xs:List Value) (hown:w.ownsRow base e size v n xs)
  (B:Nat) (A:Option Addr) (m c:Nat) (news:List Value) (hr:Rd w B size A m news) (h1:∀ u∈news,u.oneCell'=true)
  (h63:n+m<=maxLen) (hbytes:(n+m)*bytes<=140737488355328) (hbase:base<=w.heap.size) :
  ∃ v' w',(Builtin.append_ #[t,t] ty #[v,.slice A m c]).run P w=.ok v' w'/\w'.ownsRow base e size v' (n+m) (xs++news)/\w.grownBy w' v.ownBlock /\
   (v'.ownBlock=v.ownBlock\/v'.ownBlock=some w.heap.size):=by
 cases A with
 | none=>
  have hm:news=[]:=by
   by_cases h0:0<news.length
   ·obtain⟨b,off,h,_⟩:=hr.2 h0;cases h
   ·exact bu (by omega)
  subst hm;have hm0:m=0:=by
   have h0:m*size=0:=by have:=hr.1;simpa using this.symm
   rcases Nat.mul_eq_zero.1 h0 with h | h
   ·exact h
   ·omega
  subst hm0;exact⟨v,w,SV base t ty e i size ht hi v n xs hown c,by simpa using hown,World.grownBy.refl w _,.inl rfl⟩
 | some ad=>
  have hcells:∀ j u,news[j]?=some u->w.cell? (ad.add j)=some u:=by
   intro j u hu;have hl:0<news.length:=by
    have:=(ak.1 hu).1;omega
   obtain⟨b,off,h,_,hc⟩:=hr.2 hl;injection h with h;subst h
   have ha:(⟨b,off,none⟩:Addr).add j=⟨b,off+j,none⟩:=by unfold Addr.add;split<;>simp_all
   rw[ha];exact hc j u hu
  obtain⟨v',w',hrun,h2,h3,_,h5⟩:=run_append_own_at (P:=P) w base t ty e i z size bytes ht hi hz hsize hby hzs hsz v n xs hown ad m c news hr.1 hcells h1 h63 hbytes hbase;exact⟨v',w',hrun,h2,h3,h5⟩
theorem rV {ops:Array Oper}{rest:List Oper}{o:Oper}{a:Act}{Q:Exit->Act->World->Prop}(hw:Region.wanted o (yielded ops a.tmps)=true)(s x:Operand)(t:TypeId)
  (ho:o.op=.call { callee:=.builtin .append,args:=#[s,x],argTypes:=#[t,t] })
  (base:Nat) (e:TypeId) (i:TypeInfo) (z:Value) (size bytes:Nat) (ht:P.underlying t=some (.slice e)) (hi:P.info? e=some i) (hz:i.zero=some z)
  (hsize:i.size=size) (hby:i.bytes=bytes) (hzs:z.cells.size=size) (hsz:0<size)
  (v:Value) (n:Nat) (xs:List Value) (hs:a.eval s=v) (hown:w.ownsRow base e size v n xs)
  (B:Nat) (A:Option Addr) (m c:Nat) (news:List Value) (hx:a.eval x=.slice A m c) (hr:Rd w B size A m news) (h1:∀ u∈news,u.oneCell'=true)
  (h63:n+m<=maxLen) (hbytes:(n+m)*bytes<=140737488355328) (hbase:base<=w.heap.size)
  (h:∀ v' w',w'.ownsRow base e size v' (n+m) (xs++news)->w.grownBy w' v.ownBlock->(v'.ownBlock=v.ownBlock\/v'.ownBlock=some w.heap.size)->wpList P ops Q rest (a.put o.dst v') w') :
  wpList P ops Q (o::rest) a w:=by
 obtain⟨v',w',hrun,h2,h3,h4⟩:=wU (P:=P) base t o.type e i z size bytes ht hi hz hsize hby hzs hsz v n xs hown B A m c news hr h1 h63 hbytes hbase;refine wpList_step fun K hK=>?_;rw[aj hw];unfold Oper.wp execOp;simp only[ho,resolve,invoke,builtin,jM,Sem.run_pure,jy,jE,fF,List.map_nil,hs,hx,hrun];exact hK _ _ (h v' w' h2 h3 h4)
end
end Go.Proofs.YtkachcflifhgiaaGreatDoor
