/-  -/
import Derived.Test.YtkachcflifhgiaaGreatDoorAppCoreZ
import Derived.Test.YtkachcflifhgiaaGreatDoorM05
import Derived.Deep.RegionWith
set_option linter.unusedVariables false
set_option maxRecDepth 100000
set_option maxHeartbeats 16000000
namespace Go.Proofs.YtkachcflifhgiaaGreatDoor
open Go Go.RowKit
theorem MW:(Tryz.prog.info? 82).map (fun i=>(i.zero,i.size,i.bytes))=some (some (.agg #[.int .i64 0,.int .i64 0,.int .i64 0]),3,24):=by kernel_rfl
theorem EK:∀ (l:List Rg.Sn),∀ u∈spans l,u.oneCell'=true
 | [],u,hu=>by cases hu
 | s::r,u,hu=>by
  rcases aO.1 hu with h | h
  ·simp[Rg.Sn.cells3] at h;rcases h with rfl | rfl | rfl<;>rfl
  ·exact EK r u h
theorem adb {w:World}{ops:Array Oper}{rest:List Oper}{o:Oper}{a:Act}{Q:Exit->Act->World->Prop}(hw:Region.wanted o (yielded ops a.tmps)=true)(s x:Operand)
  (ho:o.op=.call { callee:=.builtin .append,args:=#[s,x],argTypes:=#[23,23] })
  {base:Nat} {v:Value} {n:Nat} {xs:List Rg.Sn} (hs:a.eval s=v) (hown:w.ownsRow base 82 3 v n (spans xs))
  {B:Nat} {A:Option Addr} {m c:Nat} {ys:List Rg.Sn} (hx:a.eval x=.slice A m c) (hr:Rd w B 3 A m (spans ys))
  (hlen:n+m<=5000000000000) (hbase:base<=w.heap.size)
  (h:∀ A' c' w',w'.ownsRow base 82 3 (.slice A' (n+m) c') (n+m) (spans (xs++ys))->w.grownBy w' v.ownBlock ->
   ((Value.slice A' (n+m) c').ownBlock=v.ownBlock\/(Value.slice A' (n+m) c').ownBlock=some w.heap.size)->wpList Tryz.prog ops Q rest (a.put o.dst (.slice A' (n+m) c')) w') :
  wpList Tryz.prog ops Q (o::rest) a w:=by
 obtain⟨i0,hi,hz0,hz1,hz2⟩:=dR MW;refine rV hw s x _ ho base _ i0 (.agg #[.int .i64 0,.int .i64 0,.int .i64 0]) 3 24 Tryz.underlying23 hi hz0 hz1 hz2 rfl (by decide) v n (spans xs) hs hown B A m c (spans ys) hx hr (EK ys)
  (by unfold maxLen;omega) (by omega) hbase ?_
 intro v' w' h2 h3 h4;obtain⟨A',c',rfl⟩:=o7 h2;rw[<-Ak] at h2;exact h A' c' w' h2 h3 h4
end Go.Proofs.YtkachcflifhgiaaGreatDoor
