/-  -/
import Derived.Test.YtkachcflifhgiaaGreatDoorM05
import Derived.Test.YtkachcflifhgiaaGreatDoorM01
import Derived.Shelf.SlSorted.Search
set_option linter.unusedVariables false
set_option maxRecDepth 100000
set_option maxHeartbeats 16000000
namespace Go.Proofs.YtkachcflifhgiaaGreatDoor
open Go Go.RowKit Go.Shelf Go.Proofs
def VX:Go.Shelf.Ren:=⟨fun | 16=>241 | n=>n,fun | 3=>3 | 4=>4 | 35=>118 | 38=>117 | n=>n,fun | n=>n⟩
theorem SQ:SlLaysO.n16 Tryz.prog VX:={
 mixed:=by kernel_rfl
 f16:=Tryz.func241.trans (aV some (by kernel_rfl))
 t3:=Tryz.underlying3
 a3:=Tryz.isAgg3
 z3:=Tryz.sizeOf3
 v3:=Tryz.zeroValue3
 t4:=Tryz.underlying4
 a4:=Tryz.isAgg4
 z4:=Tryz.sizeOf4
 v4:=Tryz.zeroValue4
 t35:=Tryz.underlying118
 a35:=Tryz.isAgg118
 z35:=Tryz.sizeOf118
 v35:=Tryz.zeroValue118
 t38:=Tryz.underlying117
 a38:=Tryz.isAgg117
 z38:=Tryz.sizeOf117
 v38:=Tryz.zeroValue117 }
theorem Jl (g:Nat)(cb:Array Value)(n:Nat)(p:Nat->Bool)(w:World)(eg:∀ args w,(callFunc g args).run Tryz.prog w=.ok (.enter g args) w)(hsz:n<4611686018427387904)
  (hf:∀ (W:World) (i:Nat),i<n->Below w.heap.size w W->Calls Tryz.prog g (#[.int .i64 i]++cb) W fun e w'=>e=.returned (.bool (p i))/\∃ q,w'=W.drewN q)
  (hmono:∀ a b,a<=b->b<n->p a=true->p b=true) :
  Calls Tryz.prog 241 #[.int .i64 n,.func (.func g) #[] cb] w fun e w'=>e=.returned (.int .i64 ((List.range n).countP (fun i=>!p i):Nat))/\Below w.heap.size w w':=
 (Any.sort_Search SQ g cb n p w eg hsz (fun m os i hi=>(hf _ i hi (below_grown_sl _ w m os (ag _))).mono fun e w' ⟨he,q,hq⟩=>⟨he,q,#[],by rw[hq,Go.Sort.grow_empty]⟩) hmono).mono
  fun e w' ⟨he,q,os,hq⟩=>⟨he,by rw[hq];exact below_grown_sl _ w q os (ag _)⟩
theorem Rg.Aw (l:List Rg.Sn)(d:Rg.Sn)(f:Rg.Sn->Bool):(List.range l.length).countP (fun i=>f (l.getD i d))=l.countP f:=by
 have h:l=(List.range l.length).map (fun i=>l.getD i d):=by
  apply List.ext_getElem
  ·simp
  ·intro i h1 h2;simp[h1]
 conv=>rhs;rw[h,List.countP_map]
 rfl
theorem Rg.yt {l:List Rg.Sn}{i:Nat}{s d:Rg.Sn}(h:l[i]?=some s):l.getD i d=s:=by simp[h]
theorem Rg.aan:∀ {l:List Rg.Sn} {x:Int},Rg.Asc x l->∀ (i j:Nat) (s u:Rg.Sn),i<j->l[i]?=some s->l[j]?=some u->s.t<u.f
 | [],_,_,i,j,s,u,_,hs,_=>by simp at hs
 | a::r,x,h,0,0,s,u,hij,hs,hu=>by omega
 | a::r,x,h,i+1,0,s,u,hij,hs,hu=>by omega
 | a::r,x,h,0,j+1,s,u,hij,hs,hu=>by
  simp at hs hu;subst hs;have:=(h.2.2.2.all u (ay hu)).1;exact this
 | a::r,x,h,i+1,j+1,s,u,hij,hs,hu=>by
  simp at hs hu;exact Rg.aan h.2.2.2 i j s u (by omega) hs hu
def Rg.d0:Rg.Sn:=⟨0,0,0⟩
theorem Rg.agU {l:List Rg.Sn}{x:Int}(h:Rg.Asc x l)(c:Int)(a b:Nat)(hab:a<=b)(hb:b<l.length)(hp:decide (c<=(l.getD a Rg.d0).t)=true):decide (c<=(l.getD b Rg.d0).t)=true:=by
 have ha:l[a]?=some l[a]:=au (by omega);have hb':l[b]?=some l[b]:=au (by omega);rw[Rg.yt ha] at hp;rw[Rg.yt hb'];simp at hp ⊢;by_cases e:a=b
 ·subst e;exact hp
 ·have h1:=Rg.aan h a b _ _ (by omega) ha hb';have h2:=(h.all _ (ay hb')).2.1;omega
def Rg.at_ (l:List Rg.Sn)(c:Int):Nat:=l.countP (fun s=>!decide (c<=s.t))
theorem Rg.ajT (l:List Rg.Sn)(c:Int):Rg.at_ l c<=l.length:=fM
theorem Rg.Ot:∀ {l:List Rg.Sn} {x:Int},Rg.Asc x l->∀ c,Rg.val l c=match l[Rg.at_ l c]? with | none=>none | some s=>if c<s.f then none else some s.v
 | [],_,_,c=>rfl
 | s::r,x,h,c=>by
  obtain⟨h1,h2,h3,h4⟩:=h;by_cases ht:s.t<c
  ·have e:Rg.at_ (s::r) c=Rg.at_ r c+1:=by unfold Rg.at_;rw[List.countP_cons_of_pos (by simp;omega)]
   rw[e,dh,Rg.Ah,ah (by omega)];exact Rg.Ot h4 c
  ·have e:Rg.at_ (s::r) c=0:=by
    unfold Rg.at_;rw[List.countP_eq_zero];intro u hu;rcases aN.1 hu with rfl | hu
    ·simp;omega
    ·have:=h4.all u hu;simp;omega
   rw[e,di,Rg.Ah];simp only;by_cases hc:c<s.f
   ·rw[aj hc,ah (by omega),Rg.EE h4 c (by omega)]
   ·rw[ah hc,aj (by omega)]
end Go.Proofs.YtkachcflifhgiaaGreatDoor
