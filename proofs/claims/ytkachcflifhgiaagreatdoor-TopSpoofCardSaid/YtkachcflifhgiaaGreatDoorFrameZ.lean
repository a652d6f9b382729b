/-  -/
import Derived.Test.YtkachcflifhgiaaGreatDoorM03
import Derived.ProofKit
import Derived.ShutString
import Derived.ChangeOld
import Derived.Below
import Derived.OpenShut
set_option linter.unusedVariables false
set_option maxRecDepth 100000
set_option maxHeartbeats 16000000
namespace Go.Proofs.YtkachcflifhgiaaGreatDoor
open Go Go.RowKit Go.ChangeShapes Go.WideShapes Go.ChangeAt
theorem Tj {w:World}{a:Addr}{n:Nat}(f:Nat->Value)(h:∀ i,i<n->w.cell? (a.add i)=some (f i)):Rd w w.heap.size 1 (some a) n ((List.range n).map f):=by
 refine⟨by simp,fun hn=>?_⟩;have hn:0<n:=by simpa using hn
 obtain⟨b,off,spot⟩:=a;have h0:w.cell? ⟨b,off,spot⟩=some (f 0):=by simpa[Addr.add] using h 0 hn
 have hs:spot=none:=by simpa using World.cell?_spot h0
 subst hs;refine⟨b,off,rfl,World.block_lt_of_cell? w _ h0,fun j u hu=>?_⟩;rw[List.getElem?_map] at hu;by_cases hj:j<n
 ·rw[List.getElem?_range hj] at hu;have hu':f j=u:=by simpa using hu
  have hc:=h j hj;have ha:(⟨b,off,none⟩:Addr).add j=⟨b,off+j,none⟩:=by unfold Addr.add;split<;>simp_all
  rw[ha,hu'] at hc;exact hc
 ·rw[dJ (by simpa using hj)] at hu;simp at hu
theorem KU {H:Type}{enc:TypeId×Value->H}{P:Program}{w:World}{t e:TypeId}{k:IntKind}{a:Option Addr}{len cap:Nat}{d:DataW H}{p:List MemPlace}
  (ht:P.underlying t=some (.slice e)) (he:P.underlying e=some (.int k)) (hc:P.cellsOf e=1)
  (h:DataW.Trod enc P w 0 (fun _=>true) true t (.slice a len cap) d p) :
  ∃ xs:List Int,len=xs.length/\Rd w w.heap.size 1 a xs.length (DY k xs)/\xs.length<=maxLen/\∀ n∈xs,(Lit.int k n).wf=true:=by
 obtain⟨fuel,hf⟩:=h;rcases open_ints ht he hc hf with ⟨hcs,_⟩ | ⟨x,l,c,zs,hcs,_,hl,hm,hz,_,hcell,hwz⟩
 ·simp only[Value.cells,iJ,Value.slice.injEq,and_true] at hcs;obtain⟨rfl,rfl,rfl⟩:=hcs;exact⟨[],rfl,Rd.nil_ _ _ _ _,by simp,by simp⟩
 ·simp only[Value.cells,iJ,Value.slice.injEq,and_true] at hcs;obtain⟨rfl,rfl,rfl⟩:=hcs;have hz':zs.length=cap:=by simpa using hz
  refine⟨zs.take len,by simp;omega,?_,by simp;omega,fun n hn=>hwz n (jF hn)⟩;have hr:=Tj (w:=w) (a:=x) (n:=len) (fun i=>.int k (zs.getD i 0)) (fun i hi=>hcell i (by omega));have e1:(zs.take len).length=len:=by simp;omega
  have e2:DY k (zs.take len)=(List.range len).map (fun i=>Value.int k (zs.getD i 0)):=by
   apply List.ext_getElem?;intro j;by_cases hj:j<len
   ·simp[DY,hj];rw[au (by omega)];simp
   ·rw[dJ (by simp[DY];omega),dJ (by simp;omega)]
  rw[e1,e2];exact hr
end Go.Proofs.YtkachcflifhgiaaGreatDoor
