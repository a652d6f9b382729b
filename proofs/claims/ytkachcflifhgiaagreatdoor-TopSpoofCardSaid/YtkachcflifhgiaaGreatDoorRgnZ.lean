/-  -/
import Derived.Test.YtkachcflifhgiaaGreatDoorM03
import Derived.Deep.RegionHeld3
set_option linter.unusedVariables false
set_option maxRecDepth 100000
set_option maxHeartbeats 16000000
namespace Go.Proofs.YtkachcflifhgiaaGreatDoor
theorem aI:type_of% @Go.wp_region_held_drew:=@Go.wp_region_held_drew
theorem aJ:type_of% @Go.wpAnyH_done:=@Go.wpAnyH_done
theorem jD:type_of% @Go.AllReadyH.cons:=@Go.AllReadyH.cons
open Go Go.RowKit
section
variable {P:Program} {md:Region.Mode} {ops:Array Oper} {Q:Exit->Act->World->Prop} {S:World->Prop}
theorem tk {oi:Oper}{v:Value}{fuel:Nat}{listed l':Array Bool}{a a':Act}{w:World}(i:Nat)(h:wpAnyH P md ops Q S fuel l' a' w)
  (hi:ops[i]?=some oi:=by ((try simp only[bK,di,dh]);exact rfl)) (hs:Region.noSelect ops=true:=by kernel_rfl) (hf:Region.free md ops listed i=true:=by kernel_rfl) (hr:(Region.ready md ops listed).contains i=true:=by kernel_rfl)
  (hQ:∀ c a w,Q (.panic c) (a.put oi.dst v) w->Q (.panic c) a w:=by exact fun _ _ _ h=>h) (hw:Region.wanted oi (yielded ops a.tmps)=true:=by rfl)
  (hy:∀ W,S W->(execOp a.eval oi).run P W=.ok (.value v) W:=by (intro W hW;have hW:=hW.conj;go_simp;try with_reducible rfl)) (hS:S w:=by assumption)
  (hl:listed.setIfInBounds i true=l':=by ((try simp only[ax,aF,aC]);exact rfl))
  (ha:a.put oi.dst v=a':=by ((try simp only[Act.put,ax,aF,aC]);exact rfl)) :
  wpAnyH P md ops Q S (fuel+1) listed a w:=by
 subst hl;subst ha;exact wpAnyH_take hi hs hf hr hQ (.inl ⟨hw,hy⟩) hS h
theorem tu {oi:Oper}{fuel:Nat}{listed l':Array Bool}{a a':Act}{w:World}(i:Nat)(h:wpAnyH P md ops Q S fuel l' a' w)
  (hi:ops[i]?=some oi:=by ((try simp only[bK,di,dh]);exact rfl)) (hs:Region.noSelect ops=true:=by kernel_rfl) (hf:Region.free md ops listed i=true:=by kernel_rfl) (hr:(Region.ready md ops listed).contains i=true:=by kernel_rfl)
  (hQ:∀ c a w,Q (.panic c) (a.put oi.dst undef) w->Q (.panic c) a w:=by exact fun _ _ _ h=>h) (hw:Region.wanted oi (yielded ops a.tmps)=false:=by rfl) (hS:S w:=by assumption)
  (hl:listed.setIfInBounds i true=l':=by ((try simp only[ax,aF,aC]);exact rfl))
  (ha:a.put oi.dst undef=a':=by ((try simp only[Act.put,ax,aF,aC]);exact rfl)) :
  wpAnyH P md ops Q S (fuel+1) listed a w:=by
 subst hl;subst ha;exact wpAnyH_take hi hs hf hr hQ (.inr ⟨hw,rfl⟩) hS h
theorem rc {o:Oper}{fuel:Nat}{listed l':Array Bool}{a:Act}{w:World}(i:Nat)(h:∀ K':Act->World->Prop,Shut (∀ a w,S w->(S w->wpAnyH P md ops Q S fuel l' a w)->K' a w)->Oper.wp P o a w K' Q)
  (ho:ops[i]?=some o:=by ((try simp only[bK,di,dh]);exact rfl)) (hr:Region.ready md ops listed=[i]:=by kernel_rfl) (hw:Region.wanted o (yielded ops a.tmps)=true:=by rfl)
  (hl:listed.setIfInBounds i true=l':=by ((try simp only[ax,aF,aC]);exact rfl)):wpAnyH P md ops Q S (fuel+1) listed a w:=by
 subst hl;exact wpAnyH_ready hr (by simp) (jD ho (fun K hK=>by rw[aj hw];exact h K hK) AllReadyH.nil)
theorem rk {fuel:Nat}{l':Array Bool}{a a':Act}{w:World}{K:Act->World->Prop}(hK:Shut (∀ a w,S w->(S w->wpAnyH P md ops Q S fuel l' a w)->K a w))(hS:S w)(h:S w->wpAnyH P md ops Q S fuel l' a' w)
  (ha:a=a':=by ((try simp only[Act.put,ax,aF,aC]);exact rfl)):K a w:=by
 subst ha;exact hK.out _ _ hS h
end
end Go.Proofs.YtkachcflifhgiaaGreatDoor
