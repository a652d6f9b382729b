/-  -/
import Derived.Test.YtkachcflifhgiaaGreatDoorProg
import Derived.Test.YtkachcflifhgiaaGreatDoorM03
import Derived.Maps.Own
import Derived.Maps.OwnOps
import Derived.Maps.OwnSet
import Derived.Maps.Keyed
import Derived.Maps.Views
import Derived.DeepKeys4
import Derived.KernelRfl
set_option linter.unusedVariables false
set_option maxRecDepth 100000
set_option maxHeartbeats 16000000
namespace Go.Proofs.YtkachcflifhgiaaGreatDoor
open Go Go.RowKit
theorem laid2:laidOutB Tryz.prog=true:=by kernel_rfl
theorem agG:(242:TypeId)<Tryz.prog.types.size:=gm (by kernel_rfl)
theorem ajt:(match Tryz.prog.underlying 242 with | some (.array _ _) | some (.struct _)=>true | _=>false)=true:=by rw[Tryz.underlying242]
theorem alp:WideMaps.KeyLaw Tryz.prog 242:=deep_law_laid laid2 (m:=2) (by omega) agG (by kernel_rfl) ajt
theorem xx:Maps.Keyed Tryz.prog 242:=Maps.Keyed.of_law alp
@[reducible] def kv (a b:Int):Value:=.agg #[.int .i64 a,.int .i64 b]
def I64 (a:Int):Prop:=-9223372036854775808<=a/\a<=9223372036854775807
theorem wf64 {a:Int}(h:I64 a):(Lit.int .i64 a).wf=true:=by
 obtain⟨h1,h2⟩:=h;have e1:IntKind.i64.min=-9223372036854775808:=rfl;have e2:IntKind.i64.max=9223372036854775807:=rfl;simp[Lit.wf,e1,e2];omega
theorem WW {a b:Int}(ha:I64 a)(hb:I64 b):∃ l,keyOf Tryz.prog 242 (kv a b)=some l:=by
 have h1:Tryz.prog.keyType 242=true:=by kernel_rfl
 have h2:(kv a b).formed Tryz.prog 242=true:=by
  have:Tryz.prog.cellsOf 242=2:=by kernel_rfl
  simp[Value.formed,Tryz.underlying242,this]
 have h3:∃ ls,Tryz.prog.keyLits (Tryz.prog.types.size+1) 242 (kv a b).cells.toList=some ls:=by
  obtain⟨m,hm⟩:∃ m,Tryz.prog.types.size=m+1:=⟨Tryz.prog.types.size-1,(Nat.succ_pred_eq_of_pos (iC (iY _) agG)).symm⟩;have e1:Tryz.prog.cellsOf 242=2:=by kernel_rfl
  have e2:Tryz.prog.cellsOf 3=1:=by kernel_rfl
  have k1:Tryz.prog.keyLits (m+1) 3 [.int .i64 a]=some [.int .i64 a]:=by simp[Program.keyLits,Tryz.underlying3,wf64 ha]
  have k2:Tryz.prog.keyLits (m+1) 3 [.int .i64 b]=some [.int .i64 b]:=by simp[Program.keyLits,Tryz.underlying3,wf64 hb]
  rw[hm];unfold Program.keyLits;rw[Tryz.underlying242];simp[e1,e2,Value.cells,List.range,List.range.loop,k1,k2]
 obtain⟨ls,h3⟩:=h3;unfold keyOf;rw[Tryz.underlying242];simp only;rw[aj (by rw[h1,h2];rfl),h3];exact⟨_,rfl⟩
def PB (w:World)(g n:Nat)(f:Int->Int->Bool):Prop:=
 ∃ D:DataW Unit,w.ownsMap Tryz.prog 242 (plainElem Tryz.prog 4) g n D/\Maps.IsMap D/\∀ a b l,keyOf Tryz.prog 242 (kv a b)=some l->D.atKey l (.lit (.bool false))=.lit (.bool (f a b))
def PI (w:World)(g n:Nat)(f:Int->Int->Option Int):Prop:=
 ∃ D:DataW Unit,w.ownsMap Tryz.prog 242 (plainElem Tryz.prog 3) g n D/\Maps.IsMap D/\∀ a b l,keyOf Tryz.prog 242 (kv a b)=some l->D.atKey l (.lit (.int .i64 0))=.lit (.int .i64 ((f a b).getD 0))/\Maps.has D l=(f a b).isSome
section
variable {w w':World} {g n:Nat}
theorem PB.made (w:World):PB (w.alloc (.map #[] 0)) w.heap.size 0 (fun _ _=>false):=⟨_,World.ownsMap_made _ _ _ _,⟨[],rfl⟩,fun _ _ _ _=>rfl⟩
theorem PI.made (w:World):PI (w.alloc (.map #[] 0)) w.heap.size 0 (fun _ _=>none):=⟨_,World.ownsMap_made _ _ _ _,⟨[],rfl⟩,fun _ _ _ _=>⟨rfl,rfl⟩⟩
theorem PB.lt {f:Int->Int->Bool}(h:PB w g n f):g<w.heap.size:=by obtain⟨D,h,_⟩:=h;exact h.lt
theorem PI.lt {f:Int->Int->Option Int}(h:PI w g n f):g<w.heap.size:=by obtain⟨D,h,_⟩:=h;exact h.lt
theorem PB.at_ {f:Int->Int->Bool}(h:PB w g n f)(hh:w'.heap[g]?=w.heap[g]?):PB w' g n f:=by
 obtain⟨D,⟨es,cl,h1,h2⟩,h3⟩:=h;exact⟨D,⟨es,cl,hh.trans h1,h2⟩,h3⟩
theorem PI.at_ {f:Int->Int->Option Int}(h:PI w g n f)(hh:w'.heap[g]?=w.heap[g]?):PI w' g n f:=by
 obtain⟨D,⟨es,cl,h1,h2⟩,h3⟩:=h;exact⟨D,⟨es,cl,hh.trans h1,h2⟩,h3⟩
theorem PB.below {f:Int->Int->Bool}{B:Nat}(h:PB w g n f)(hb:Below B w w')(hg:g<B):PB w' g n f:=h.at_ (hb.block g hg)
theorem PI.below {f:Int->Int->Option Int}{B:Nat}(h:PI w g n f)(hb:Below B w w')(hg:g<B):PI w' g n f:=h.at_ (hb.block g hg)
theorem PB.look {f:Int->Int->Bool}(h:PB w g n f){a b:Int}(ha:I64 a)(hb:I64 b){t:TypeId}(ht:Tryz.prog.underlying t=some (.map 242 4)) :
  (Instr.lookup t (.map (some g)) (kv a b) false).run Tryz.prog w=.ok (.bool (f a b)) w:=by
 obtain⟨D,h1,_,h3⟩:=h;obtain⟨l,hl⟩:=WW ha hb;have hz:(zeroValue 4).run Tryz.prog w=.ok (.bool false) w:=by kernel_rfl
 obtain⟨v,ps,hrun,hv⟩:=h1.lookup xx ht hz (plainElem_bool Tryz.underlying4 false) hl;rw[h3 a b l hl] at hv;have:v=.bool (f a b):=by
  unfold plainElem at hv;rw[Tryz.underlying4] at hv;cases v<;>simp at hv
  rw[hv.1]
 rw[hrun,this]
theorem PB.put {f:Int->Int->Bool}(h:PB w g n f)(hn:n<1000000){a b:Int}(ha:I64 a)(hb:I64 b){t:TypeId}(ht:Tryz.prog.underlying t=some (.map 242 4)) :
  ∃ w',(Instr.mapUpdate t (.map (some g)) (kv a b) (.bool true)).run Tryz.prog w=.ok () w'/\PB w' g (n+1) (fun x y=>decide (x=a/\y=b)||f x y)/\w.grownBy w' (some g):=by
 obtain⟨D,h1,h2,h3⟩:=h;obtain⟨l,hl⟩:=WW ha hb;obtain⟨w',hrun,ho,hg⟩:=h1.update xx ht (by unfold maxLen;omega) hl (plainElem_bool Tryz.underlying4 true);refine⟨w',hrun,⟨_,ho,?_,fun x y k hk=>?_⟩,hg⟩
 ·obtain⟨es,rfl⟩:=h2;exact⟨_,rfl⟩
 ·by_cases e:k=l
  ·subst e;have:=xx.inj hl hk;simp at this;rw[Maps.atKey_put_same h2 (xx.key hl)];simp[this.1,this.2]
  ·rw[Maps.atKey_put_other e,h3 x y k hk];have:¬(x=a/\y=b):=by
    rintro⟨rfl,rfl⟩;rw[hl] at hk;injection hk with hk
    exact e hk.symm
   simp[this]
theorem PI.look {f:Int->Int->Option Int}(h:PI w g n f){a b:Int}(ha:I64 a)(hb:I64 b){t:TypeId}(ht:Tryz.prog.underlying t=some (.map 242 3)) :
  (Instr.lookup t (.map (some g)) (kv a b) true).run Tryz.prog w=.ok (.tuple #[.int .i64 ((f a b).getD 0),.bool (f a b).isSome]) w:=by
 obtain⟨D,h1,_,h3⟩:=h;obtain⟨l,hl⟩:=WW ha hb;have hz:(zeroValue 3).run Tryz.prog w=.ok (.int .i64 0) w:=by kernel_rfl
 obtain⟨v,ps,hrun,hv⟩:=h1.look_ok xx ht hz (plainElem_int Tryz.underlying3 (by decide)) hl;rw[(h3 a b l hl).1] at hv;obtain⟨c,rfl,hc,_⟩:=plainElem_int_inv Tryz.underlying3 hv;simp at hc;rw[hrun,(h3 a b l hl).2,hc.1]
theorem PI.put {f:Int->Int->Option Int}(h:PI w g n f)(hn:n<1000000){a b c:Int}(ha:I64 a)(hb:I64 b)(hc:I64 c){t:TypeId}(ht:Tryz.prog.underlying t=some (.map 242 3)) :
  ∃ w',(Instr.mapUpdate t (.map (some g)) (kv a b) (.int .i64 c)).run Tryz.prog w=.ok () w'/\PI w' g (n+1) (fun x y=>if x=a/\y=b then some c else f x y)/\w.grownBy w' (some g):=by
 obtain⟨D,h1,h2,h3⟩:=h;obtain⟨l,hl⟩:=WW ha hb;obtain⟨w',hrun,ho,hg⟩:=h1.update xx ht (by unfold maxLen;omega) hl (plainElem_int Tryz.underlying3 (wf64 hc));refine⟨w',hrun,⟨_,ho,?_,fun x y k hk=>?_⟩,hg⟩
 ·obtain⟨es,rfl⟩:=h2;exact⟨_,rfl⟩
 ·by_cases e:k=l
  ·subst e;have:=xx.inj hl hk;simp at this;dsimp only;rw[Maps.atKey_put_same h2 (xx.key hl),Maps.has_put_same h2 (xx.key hl),aj ⟨this.1.symm,this.2.symm⟩];exact⟨rfl,rfl⟩
  ·dsimp only;rw[Maps.atKey_put_other e,Maps.has_put_other e,ah]
   ·exact h3 x y k hk
   ·rintro⟨rfl,rfl⟩;rw[hl] at hk;injection hk with hk
    exact e hk.symm
end
end Go.Proofs.YtkachcflifhgiaaGreatDoor
