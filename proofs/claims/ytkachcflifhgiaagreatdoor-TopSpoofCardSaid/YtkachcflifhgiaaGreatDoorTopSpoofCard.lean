/- The card of 'TopSpoof' of the seat's rows, proved: the law returns true for every input, and what it was given reads as before; the tables that strconv reads hold what the program's text lays. -/
import Derived.Test.YtkachcflifhgiaaGreatDoorCards
import Derived.Test.YtkachcflifhgiaaGreatDoorTie
import Derived.Test.YtkachcflifhgiaaGreatDoorFrameZ
import Derived.Test.YtkachcflifhgiaaGreatDoorHbCZ
import Derived.Test.YtkachcflifhgiaaGreatDoorHbDZ
import Derived.WalkKit
import Derived.ProofKit
import Derived.OpenShut
import Derived.Deep.DeepHandedRow
import Derived.Deep.DeepWitnessRowRef
import Derived.Lib.LaidTab
import Derived.LaidSub
import Derived.MakeChecks
set_option linter.unusedVariables false
set_option maxRecDepth 100000
set_option maxHeartbeats 16000000
namespace Go.Proofs.YtkachcflifhgiaaGreatDoor.topSpoofCardP
open Go Go.RowKit Go.ChangeShapes Go.WideShapes Go.ChangeAt
open Go.ChangeMaps (open_string shut_string)
theorem own:ownKnob Tryz.prog.godebug=none:=by kernel_rfl
theorem laidOut:laidOutB Tryz.prog=true:=by kernel_rfl
theorem gTab:Tryz.prog.globalNamed "internal/strconv.uint64pow10" = some 1:=by kernel_rfl
theorem acz:(Tryz.prog.globals[1]?).map (·.type)=some 312:=by kernel_rfl
theorem cellsA:Tryz.prog.cellsOf 312=20:=by kernel_rfl
theorem cellsE:Tryz.prog.cellsOf 197=1:=by kernel_rfl
theorem table {W:World}(h:laidMetH Tryz.prog Rows.topSpoofRow.laid W):Tb W:=by
 have h1:laidMet Tryz.prog Rows.topSpoofRow.laid W:=(MakeChecks.laidMetH_plain Tryz.prog Rows.topSpoofRow.laid W (by kernel_rfl))▸h;have h2:=laidMet.filter (fun x=>x.1 == "internal/strconv.uint64pow10") h1;have e:(Rows.topSpoofRow.laid.filter fun x=>x.1 == "internal/strconv.uint64pow10")=[("internal/strconv.uint64pow10",Lib.tabData .u64 Lib.pow10Tab)]:=by kernel_rfl
 rw[e] at h2;exact Lib.tabIs_of_head (rest:=[]) gTab acz Tryz.underlying312 Tryz.underlying197 cellsE cellsA h2
theorem ajS {W:World}(h:laidMetH Tryz.prog Rows.topSpoofRow.laid W):xg W W.heap.size:=by
 have h1:laidMet Tryz.prog Rows.topSpoofRow.laid W:=(MakeChecks.laidMetH_plain Tryz.prog Rows.topSpoofRow.laid W (by kernel_rfl))▸h;exact Q3 (Lib.laidMet.reads h1 (by unfold Rows.topSpoofRow;simp))
theorem contract (H:Type)(enc:TypeId×Value->H)(W:World)(base:Nat)(args:Array Value)(ds gs:List (DataW H))(before:List MemPlace)
  (hval0:∀ (j:Nat) t v,Tryz.f3.params[j]?=some t->args[j]?=some v->Value.okWide Tryz.prog W .any base t v)
  (hW:DataW.Whole enc Tryz.prog Tryz.f3.params.toList Rows.topSpoofSpec.vars false W args.toList ds gs before) (hL:laidMetH Tryz.prog Rows.topSpoofRow.laid W) :
  Calls Tryz.prog 3 args W fun e W'=>∃ v,e=.returned v/\Rows.topSpoofSpec.post enc Tryz.prog Tryz.f3 false true false false W args v W':=by
 have hval:∀ (j:Nat) t v,Tryz.f3.params[j]?=some t->args[j]?=some v->Value.okWide Tryz.prog W .any base t v:=hval0;have hW':=hW;obtain⟨p,q,hA0,hV,rfl,hfz,hnd⟩:=hW;have hA:DataW.TrodAll enc Tryz.prog W 0 (fun _=>true) true Tryz.f3.params.toList args.toList ds p:=hA0;rw[Tryz.params3] at hA hval;obtain⟨v0,vs0,d0,ds0,p0,q0,hargs,rfl,rfl,h0,r0⟩:=trodAll_cons hA;obtain⟨v1,vs1,d1,ds1,p1,q1,rfl,rfl,rfl,h1,r1⟩:=trodAll_cons r0;obtain⟨v2,vs2,d2,ds2,p2,q2,rfl,rfl,rfl,h2,r2⟩:=trodAll_cons r1;obtain⟨v3,vs3,d3,ds3,p3,q3,rfl,rfl,rfl,h3,r3⟩:=trodAll_cons r2;obtain⟨rfl,rfl,rfl⟩:=trodAll_nil r3;obtain rfl:args=#[v0,v1,v2,v3]:=by cases args;simp_all
 obtain⟨rfl,rfl⟩:=trodVars_none hV;obtain⟨a0,len0,cap0,rfl⟩:=okWide_slice bC (hval 0 22 v0 rfl rfl);have k0:=h0;have lt0:∀ x∈p0,x.block<W.heap.size:=by obtain⟨m,hm⟩:=k0;exact DataW.trod_lt m _ _ _ hm
 obtain⟨x0,rfl,rd0,m0,f0⟩:=KU bC bM (by kernel_rfl) h0;obtain⟨a1,len1,cap1,rfl⟩:=okWide_slice bC (hval 1 22 v1 rfl rfl);have k1:=h1;have lt1:∀ x∈p1,x.block<W.heap.size:=by obtain⟨m,hm⟩:=k1;exact DataW.trod_lt m _ _ _ hm
 obtain⟨x1,rfl,rd1,m1,f1⟩:=KU bC bM (by kernel_rfl) h1;obtain⟨a2,ao0,cap2,rfl⟩:=okWide_slice bC (hval 2 22 v2 rfl rfl);have k2:=h2;have lt2:∀ x∈p2,x.block<W.heap.size:=by obtain⟨m,hm⟩:=k2;exact DataW.trod_lt m _ _ _ hm
 obtain⟨x2,rfl,rd2,m2,f2⟩:=KU bC bM (by kernel_rfl) h2;obtain⟨a3,rfl,rfl,rfl,w3⟩:=open_int bM (hval 3 3 v3 rfl rfl) h3;clear hA0 hval0;refine (NY a0 cap0 x0 a1 cap1 x1 a2 cap2 x2 a3 W rd0 m0 f0 rd1 m1 f1 rd2 m2 f2 w3 (table hL) (ajS hL)).mono fun e W' ⟨he,bel⟩=>?_;subst he;exact⟨_,rfl,_,_,_,[],_,[],hW',trodAll_mk1 (shut_bool eP _),(trodAll_cons_mk (Below.trod laidOut (by kernel_rfl) (gm (by kernel_rfl)) k0 bel lt0) (trodAll_cons_mk (Below.trod laidOut (by kernel_rfl) (gm (by kernel_rfl)) k1 bel lt1) (trodAll_cons_mk (Below.trod laidOut (by kernel_rfl) (gm (by kernel_rfl)) k2 bel lt2) (trodAll_cons_mk (shut_int bM w3) trodAll_mk0)))),rfl,bel.frame _,fun h=>by cases h⟩
noncomputable def low:Nat:=(World.holding Tryz.prog default ⟨#[],#[],[]⟩).heap.size
noncomputable def laidWorld (os:Os):World:=
 let w0:=World.holding Tryz.prog os ⟨#[.cells #[.int .i64 0,.int .i64 127,.int .i64 0,.int .i64 4352,.int .i64 4370,.int .i64 0,.int .i64 4449,.int .i64 4469,.int .i64 0,.int .i64 4520,.int .i64 4546,.int .i64 0,.int .i64 44032,.int .i64 55203,.int .i64 0,.int .i64 55296,.int .i64 57343,.int .i64 0] 82],#[],[]⟩
 { w0 with heap:=((((w0.heap.modify 0 (fun
   | .cells _ t frozen=>.cells #[.slice (some ⟨low,0,none⟩) 6 6] t frozen
   | o=>o)).modify 1 (fun
   | .cells _ t frozen=>.cells #[.int .u64 1,.int .u64 10,.int .u64 100,.int .u64 1000,.int .u64 10000,.int .u64 100000,.int .u64 1000000,.int .u64 10000000,.int .u64 100000000,.int .u64 1000000000,.int .u64 10000000000,.int .u64 100000000000,.int .u64 1000000000000,.int .u64 10000000000000,.int .u64 100000000000000,.int .u64 1000000000000000,.int .u64 10000000000000000,.int .u64 100000000000000000,.int .u64 1000000000000000000,.int .u64 10000000000000000000] t frozen
   | o=>o)).modify 3 (fun
   | .cells _ t frozen=>.cells #[.int .u8 0,.int .u8 1,.int .u8 28,.int .u8 2,.int .u8 29,.int .u8 14,.int .u8 24,.int .u8 3,.int .u8 30,.int .u8 22,.int .u8 20,.int .u8 15,.int .u8 25,.int .u8 17,.int .u8 4,.int .u8 8,.int .u8 31,.int .u8 27,.int .u8 13,.int .u8 23,.int .u8 21,.int .u8 19,.int .u8 16,.int .u8 7,.int .u8 26,.int .u8 12,.int .u8 18,.int .u8 6,.int .u8 11,.int .u8 5,.int .u8 10,.int .u8 9] t frozen
   | o=>o)).modify 4 (fun
   | .cells _ t frozen=>.cells #[.int .u8 0,.int .u8 1,.int .u8 56,.int .u8 2,.int .u8 57,.int .u8 49,.int .u8 28,.int .u8 3,.int .u8 61,.int .u8 58,.int .u8 42,.int .u8 50,.int .u8 38,.int .u8 29,.int .u8 17,.int .u8 4,.int .u8 62,.int .u8 47,.int .u8 59,.int .u8 36,.int .u8 45,.int .u8 43,.int .u8 51,.int .u8 22,.int .u8 53,.int .u8 39,.int .u8 33,.int .u8 30,.int .u8 24,.int .u8 18,.int .u8 12,.int .u8 5,.int .u8 63,.int .u8 55,.int .u8 48,.int .u8 27,.int .u8 60,.int .u8 41,.int .u8 37,.int .u8 16,.int .u8 46,.int .u8 35,.int .u8 44,.int .u8 21,.int .u8 52,.int .u8 32,.int .u8 23,.int .u8 11,.int .u8 54,.int .u8 26,.int .u8 40,.int .u8 15,.int .u8 34,.int .u8 20,.int .u8 31,.int .u8 10,.int .u8 25,.int .u8 14,.int .u8 19,.int .u8 9,.int .u8 13,.int .u8 8,.int .u8 7,.int .u8 6] t frozen
   | o=>o)) }
theorem laid_met (os:Os):laidMet Tryz.prog Rows.topSpoofRow.laid ((laidWorld os).forCall (fun _ _=>0) ⟨#[],#[.slice none 0 0,.slice none 0 0,.slice none 0 0,.int .i64 0],[]⟩).memory:=
 laidMet_of_run' 8 (by kernel_rfl) (by kernel_rfl)
theorem reads (os:Os){H:Type}(enc:TypeId×Value->H):∃ places,DataW.whole enc Tryz.prog ((laidWorld os).forCall (fun _ _=>0) ⟨#[],#[.slice none 0 0,.slice none 0 0,.slice none 0 0,.int .i64 0],[]⟩).memory Tryz.f3.params.toList Rows.topSpoofSpec.vars false #[(.slice none 0 0:Value),.slice none 0 0,.slice none 0 0,.int .i64 0].toList 8=some ([.nil,.nil,.nil,.lit (.int .i64 0)],[],places):=
 ⟨[],by kernel_rfl⟩
theorem lifted (os:Os)(started:os.Started)(H:Type)(enc:TypeId×Value->H)(F:Stop.Interp) :
  ReturnsInHanded {} Tryz.checked os 3 .any ((OpenSpec.ofChange Rows.topSpoofSpec).preRow enc Tryz.prog Tryz.f3 Rows.topSpoofRow.domain false Rows.topSpoofRow.laid) (((OpenSpec.ofChange Rows.topSpoofSpec).at F).post enc Tryz.prog Tryz.f3 false true false false):=by
 obtain⟨places,hx⟩:=reads os enc;refine returnsInHanded_of_row (C:=Tryz.checked) (s:=(OpenSpec.ofChange Rows.topSpoofSpec)) own started (by kernel_rfl) Tryz.func3
  (witness_row_atRef (enc:=enc) (C:=Tryz.checked) false (laidWorld os) #[.slice none 0 0,.slice none 0 0,.slice none 0 0,.int .i64 0] rfl (by kernel_rfl) (by kernel_rfl) (by kernel_rfl)
   (OpenSpec.preRow_of_cond 8 hx (by kernel_rfl) (fun k hk=>by cases hk) (by kernel_rfl) (laid_met os))) ?_
 intro W base args ds gs before hval hW _ _ _ hL _ _;exact contract H enc W base args ds gs before hval hW hL
theorem said:Rows.TopSpoofSaid:=
 OpenClaim.holds_of_cond 3 Tryz.f3 rfl rfl rfl rfl rfl rfl rfl ⟨rfl,rfl,rfl,rfl,rfl⟩ rfl rfl rfl rfl rfl (by kernel_rfl) Tryz.func3 (by kernel_rfl)
  (gm (by kernel_rfl)) (by unfold Func.isWrapper;first | (rw[aj (by decide +kernel)];kernel_rfl) | (rw[ah (by decide +kernel)];exact⟨rfl,rfl⟩))
  (fun os started H enc _ F=>by rw[OpenClaim.pre_eq_preRow];exact lifted os started H enc F)
theorem plain (f:FuncId) (fn:Func) (hf:Tryz.pinned.checked.prog.funcNamed "namedesk/namedesktop.TopSpoof" = some f) (hfn:Tryz.pinned.checked.prog.funcs[f]?=some fn) :
  false=Tryz.pinned.checked.prog.looks []/\∀ (j:Nat) t,fn.params[j]?=some t->Tryz.pinned.checked.prog.wantsStandIn t=false:=by
 obtain rfl:f=3:=dF ((show Tryz.prog.funcNamed "namedesk/namedesktop.TopSpoof" = some 3 by kernel_rfl).symm.trans hf) |>.symm;obtain rfl:fn=Tryz.f3:=(dF (Tryz.func3.symm.trans hfn)).symm;refine⟨by kernel_rfl,fun j t ht=>?_⟩;rw[Tryz.params3] at ht;have hm:=Array.mem_of_getElem? ht;simp only[List.mem_toArray,aN,aZ,dw] at hm;rcases hm with rfl | rfl | rfl | rfl
 ·exact (show Tryz.prog.wantsStandIn 22=false by kernel_rfl)
 ·exact (show Tryz.prog.wantsStandIn 22=false by kernel_rfl)
 ·exact (show Tryz.prog.wantsStandIn 22=false by kernel_rfl)
 ·exact (show Tryz.prog.wantsStandIn 3=false by kernel_rfl)
theorem proved:Rows.TopSpoofCardSaid:=
 Claim7.holds_tied_plain_at .later [] _ _ _ _ said (fun _ h=>by cases h) (by kernel_rfl) (fun _ h=>by cases h) topSpoof_row_tie rfl ⟨rfl,rfl⟩ (by kernel_rfl) rfl plain (by kernel_rfl)
#print axioms proved
end Go.Proofs.YtkachcflifhgiaaGreatDoor.topSpoofCardP
