/-    -/
import Derived.WalkKit
import Derived.WalkSpells
import Derived.WalkLawsBesides
import Derived.Lib.Hide
import Derived.Laws.OwnMore
import Derived.Deep.Draws
import Derived.Laws.Rows
import Derived.Below
set_option linter.unusedVariables false
set_option maxRecDepth 100000
set_option maxHeartbeats 16000000
namespace Go.Proofs.YtkachcflifhgiaaGreatDoor
theorem af:type_of% @Go.Lib.hid:=@Go.Lib.hid
theorem ag:type_of% @Nat.le_refl:=@Nat.le_refl
theorem ah:type_of% @if_neg:=@if_neg
theorem ai:type_of% @Go.RowKit.Below.refl:=@Go.RowKit.Below.refl
theorem aj:type_of% @if_pos:=@if_pos
theorem ak:type_of% @List.getElem?_eq_some_iff:=@List.getElem?_eq_some_iff
theorem au:type_of% @List.getElem?_eq_getElem:=@List.getElem?_eq_getElem
theorem ax:type_of% @List.setIfInBounds_toArray:=@List.setIfInBounds_toArray
theorem ay:type_of% @List.mem_of_getElem?:=@List.mem_of_getElem?
theorem az:type_of% @List.take_succ_eq_append_getElem:=@List.take_succ_eq_append_getElem
theorem aA:type_of% @List.length_append:=@List.length_append
theorem aB:type_of% @List.mem_singleton:=@List.mem_singleton
theorem aC:type_of% @List.set_cons_succ:=@List.set_cons_succ
theorem aF:type_of% @List.set_cons_zero:=@List.set_cons_zero
theorem aG:type_of% @Nat.lt_of_lt_of_le:=@Nat.lt_of_lt_of_le
theorem aH:type_of% @Go.World.ownsRow_nil:=@Go.World.ownsRow_nil
theorem aK:type_of% @Nat.le_trans:=@Nat.le_trans
theorem aN:type_of% @List.mem_cons:=@List.mem_cons
theorem aO:type_of% @List.mem_append:=@List.mem_append
theorem aP:type_of% @List.take_of_length_le:=@List.take_of_length_le
theorem aQ:type_of% @Go.RowKit.ownsRow_setCell_below:=@Go.RowKit.ownsRow_setCell_below
theorem aS:type_of% @Go.bodyPost_ret:=@Go.bodyPost_ret
theorem aT:type_of% @List.getElem?_append_right:=@List.getElem?_append_right
theorem aV:type_of% @congrArg:=@congrArg
theorem aW:type_of% @Go.IntWalk.i64_in:=@Go.IntWalk.i64_in
theorem aX:type_of% @beq_eq_false_iff_ne:=@beq_eq_false_iff_ne
theorem aY:type_of% @List.getD_eq_getElem?_getD:=@List.getD_eq_getElem?_getD
theorem aZ:type_of% @List.not_mem_nil:=@List.not_mem_nil
theorem bu:type_of% @List.eq_nil_of_length_eq_zero:=@List.eq_nil_of_length_eq_zero
theorem bz:type_of% @List.getElem?_append_left:=@List.getElem?_append_left
theorem bD:type_of% @decide_eq_false:=@decide_eq_false
theorem bF:type_of% @List.length_drop:=@List.length_drop
theorem bH:type_of% @List.length_map:=@List.length_map
theorem bI:type_of% @Nat.or_lt_two_pow:=@Nat.or_lt_two_pow
theorem bJ:type_of% @Bool.false_eq_true:=@Bool.false_eq_true
theorem bK:type_of% @List.getElem?_toArray:=@List.getElem?_toArray
theorem bP:type_of% @List.drop_eq_getElem_cons:=@List.drop_eq_getElem_cons
theorem bQ:type_of% @Go.World.cell?_setCell_other:=@Go.World.cell?_setCell_other
theorem bT:type_of% @decide_eq_true:=@decide_eq_true
theorem bV:type_of% @Go.wpAny_take:=@Go.wpAny_take
theorem bW:type_of% @decide_eq_false_iff_not:=@decide_eq_false_iff_not
theorem bY:type_of% @Nat.ne_of_lt:=@Nat.ne_of_lt
theorem bZ:type_of% @List.length_take:=@List.length_take
theorem cO:type_of% @Go.AllReady.cons:=@Go.AllReady.cons
theorem cZ:type_of% @List.mem_append_left:=@List.mem_append_left
theorem dh:type_of% @List.getElem?_cons_succ:=@List.getElem?_cons_succ
theorem di:type_of% @List.getElem?_cons_zero:=@List.getElem?_cons_zero
theorem dw:type_of% @or_false:=@or_false
theorem dD:type_of% @Go.World.cell?_alloc_lt:=@Go.World.cell?_alloc_lt
theorem dF:type_of% @Option.some.inj:=@Option.some.inj
theorem dH:type_of% @Go.IntWalk.wrap64_in:=@Go.IntWalk.wrap64_in
theorem dJ:type_of% @List.getElem?_eq_none:=@List.getElem?_eq_none
theorem dK:type_of% @List.length_pos_iff:=@List.length_pos_iff
theorem dL:type_of% @Go.AllReady.nil:=@Go.AllReady.nil
theorem dM:type_of% @Go.wpAny_ready:=@Go.wpAny_ready
theorem dN:type_of% @Go.rounds_succ:=@Go.rounds_succ
theorem dQ:type_of% @List.append_assoc:=@List.append_assoc
theorem dR:type_of% @Go.info_parts:=@Go.info_parts
theorem dS:type_of% @List.mem_take_iff_getElem:=@List.mem_take_iff_getElem
theorem dY:type_of% @Go.World.cell?_setCells_out:=@Go.World.cell?_setCells_out
theorem dZ:type_of% @List.mem_append_right:=@List.mem_append_right
theorem d_:type_of% @Array.getElem?_eq_some_iff:=@Array.getElem?_eq_some_iff
theorem eF:type_of% @List.mem_cons_self:=@List.mem_cons_self
theorem eU:type_of% @List.drop_of_length_le:=@List.drop_of_length_le
theorem eX:type_of% @List.pairwise_iff_getElem:=@List.pairwise_iff_getElem
theorem eY:type_of% @Go.ByteArray.toList_eq:=@Go.ByteArray.toList_eq
theorem fB:type_of% @List.length_replicate:=@List.length_replicate
theorem fC:type_of% @List.append_nil:=@List.append_nil
theorem fD:type_of% @Nat.or_zero:=@Nat.or_zero
theorem fE:type_of% @Go.World.cell?_of_block:=@Go.World.cell?_of_block
theorem fF:type_of% @List.map_cons:=@List.map_cons
theorem fG:type_of% @Go.wp_loop_rounds:=@Go.wp_loop_rounds
theorem fH:type_of% @Array.getElem?_eq_getElem:=@Array.getElem?_eq_getElem
theorem fK:type_of% @bne_iff_ne:=@bne_iff_ne
theorem fM:type_of% @List.countP_le_length:=@List.countP_le_length
theorem fO:type_of% @ByteArray.size_append:=@ByteArray.size_append
theorem fP:type_of% @Go.results_cell_row:=@Go.results_cell_row
theorem fQ:type_of% @if_false:=@if_false
theorem gm:type_of% @of_decide_eq_true:=@of_decide_eq_true
theorem gq:type_of% @List.map_append:=@List.map_append
theorem gu:type_of% @Bool.eq_iff_iff:=@Bool.eq_iff_iff
theorem gy:type_of% @List.getElem?_set_self:=@List.getElem?_set_self
theorem gB:type_of% @Option.map_eq_some_iff:=@Option.map_eq_some_iff
theorem gJ:type_of% @List.take_length:=@List.take_length
theorem gK:type_of% @Go.heap_alloc_new:=@Go.heap_alloc_new
theorem gQ:type_of% @Go.World.size_setCell:=@Go.World.size_setCell
theorem gU:type_of% @List.mem_iff_getElem?:=@List.mem_iff_getElem?
theorem gY:type_of% @Nat.sub_self:=@Nat.sub_self
theorem g_:type_of% @List.getElem?_set_ne:=@List.getElem?_set_ne
theorem h_:type_of% @Go.World.cell?_setCells_in:=@Go.World.cell?_setCells_in
theorem iw:type_of% @forall_eq_or_imp:=@forall_eq_or_imp
theorem iy:type_of% @Go.RowKit.Below.heap_alloc:=@Go.RowKit.Below.heap_alloc
theorem iC:type_of% @Nat.lt_of_le_of_lt:=@Nat.lt_of_le_of_lt
theorem iD:type_of% @List.filter_append:=@List.filter_append
theorem iE:type_of% @Go.RowKit.Below.heap_setCell:=@Go.RowKit.Below.heap_setCell
theorem iI:type_of% @List.length_singleton:=@List.length_singleton
theorem iJ:type_of% @List.cons.injEq:=@List.cons.injEq
theorem iO:type_of% @Array.getElem?_append_left:=@Array.getElem?_append_left
theorem iR:type_of% @List.size_toArray:=@List.size_toArray
theorem iU:type_of% @List.getLastD_eq_getLast?:=@List.getLastD_eq_getLast?
theorem iV:type_of% @List.getLast?_eq_getElem?:=@List.getLast?_eq_getElem?
theorem iW:type_of% @List.pairwise_append:=@List.pairwise_append
theorem iY:type_of% @Nat.zero_le:=@Nat.zero_le
theorem jd:type_of% @Array.length_toList:=@Array.length_toList
theorem je:type_of% @Bool.true_and:=@Bool.true_and
theorem jg:type_of% @Nat.add_assoc:=@Nat.add_assoc
theorem jv:type_of% @Go.cell_of_row:=@Go.cell_of_row
theorem jy:type_of% @Go.Result.andThen_ok:=@Go.Result.andThen_ok
theorem jA:type_of% @Go.run_eql_nil_slice:=@Go.run_eql_nil_slice
theorem jB:type_of% @Array.getElem?_toList:=@Array.getElem?_toList
theorem jE:type_of% @List.map_toArray:=@List.map_toArray
theorem jF:type_of% @List.mem_of_mem_take:=@List.mem_of_mem_take
theorem jI:type_of% @Go.World.size_alloc:=@Go.World.size_alloc
theorem jJ:type_of% @Nat.le_succ:=@Nat.le_succ
theorem jL:type_of% @List.any_append:=@List.any_append
theorem jM:type_of% @Go.Sem.run_bind:=@Go.Sem.run_bind
structure jQ(p:Prop):Prop where h:p
theorem jP {p:Prop}(h:p):jQ p:=⟨h⟩
open Go Go.RowKit
def Rd (w:World)(B size:Nat)(A:Option Addr)(n:Nat)(xs:List Value):Prop:=
 xs.length=n*size/\(0<xs.length->∃ b off,A=some ⟨b,off,none⟩/\b<B/\∀ j u,xs[j]?=some u->w.cell? ⟨b,off+j,none⟩=some u)
section
variable {w w':World} {B B' size n:Nat} {A:Option Addr} {xs:List Value}
theorem Rd.nil_ (w:World)(B size:Nat)(A:Option Addr):Rd w B size A 0 []:=⟨by simp,fun h=>absurd h (by simp)⟩
theorem Rd.keep (h:Rd w B size A n xs)(hk:∀ p:Addr,p.block<B->w'.cell? p=w.cell? p):Rd w' B size A n xs:=
 ⟨h.1,fun hn=>by
  obtain⟨b,off,e,hb,hc⟩:=h.2 hn;exact⟨b,off,e,hb,fun j u hu=>(hk ⟨b,off+j,none⟩ hb).trans (hc j u hu)⟩⟩
theorem Rd.more (h:Rd w B size A n xs)(hB:B<=B'):Rd w B' size A n xs:=
 ⟨h.1,fun hn=>by
  obtain⟨b,off,e,hb,hc⟩:=h.2 hn;exact⟨b,off,e,by omega,hc⟩⟩
theorem Rd.below (h:Rd w B size A n xs)(hb:Below B w w'):Rd w' B size A n xs:=h.keep fun _ hp=>hb.cell hp
theorem Rd.drew (h:Rd w B size A n xs):Rd w.drew B size A n xs:=h
theorem Rd.alloc (h:Rd w B size A n xs)(hB:B<=w.heap.size)(o:Obj):Rd (w.alloc o) B size A n xs:=h.keep fun p hp=>dD w o p (by omega)
theorem Rd.setCell (h:Rd w B size A n xs){p:Addr}(hB:B<=p.block)(u:Value):Rd (w.setCell p u) B size A n xs:=
 h.keep fun q hq=>bQ w p q u (fun e=>by subst e;omega)
theorem Rd.grown (h:Rd w B size A n xs){row:Option Nat}(hg:w.grownBy w' row)(hB:B<=w.heap.size)(hr:∀ g,row=some g->B<=g):Rd w' B size A n xs:=
 h.keep fun p hp=>fE (hg.block p.block (by omega) (fun e=>by have:=hr _ e.symm;omega))
theorem Rd.at_ {k:Nat}(h:Rd w B 1 A n xs)(hk:k<n):∃ b off u,A=some ⟨b,off,none⟩/\b<B/\xs[k]?=some u/\w.cell? ⟨b,off+k,none⟩=some u:=by
 have hl:k<xs.length:=by have:=h.1;omega
 obtain⟨b,off,e,hb,hc⟩:=h.2 (by omega);exact⟨b,off,xs[k],e,hb,au hl,hc k _ (au hl)⟩
theorem Rd.kX {base:Nat}{e:TypeId}{c:Nat}(h:w.ownsRow base e size (.slice A n c) n xs):Rd w w.heap.size size A n xs:=by
 refine⟨h.1,fun hn=>?_⟩;rcases h.2 with ⟨_,h0⟩ | ⟨g,cap,cur,hv,_,hh,_⟩
 ·subst h0;have:=h.1;omega
 ·have hA:A=some ⟨g,0,none⟩:=by injection hv
  subst hA;refine⟨g,0,rfl,(d_.1 hh).1,fun j u hu=>?_⟩;have:=h.cells (g:=g) rfl j u hu;have ha:(⟨g,0,none⟩:Addr).add j=⟨g,0+j,none⟩:=by unfold Addr.add;split<;>simp_all
  rwa [ha] at this
end
theorem o7 {w:World}{base:Nat}{e:TypeId}{size n:Nat}{v:Value}{xs:List Value}(h:w.ownsRow base e size v n xs):∃ A c,v=.slice A n c:=by
 rcases h.2 with ⟨rfl,rfl⟩ | ⟨g,cap,cur,rfl,_⟩
 ·exact⟨none,0,rfl⟩
 ·exact⟨_,_,rfl⟩
def Bk (w:World)(g:Nat)(t:TypeId)(cs:Array Value):Prop:=w.heap[g]?=some (.cells cs t (0,0))
section
variable {w w':World} {g:Nat} {t:TypeId} {cs:Array Value}
theorem Bk.lt (h:Bk w g t cs):g<w.heap.size:=(d_.1 h).1
theorem Bk.cell (h:Bk w g t cs)(i:Nat):w.cell? ⟨g,i,none⟩=cs[i]?:=jv w g i cs t (0,0) h
theorem Bk.frozen (h:Bk w g t cs)(i:Nat):w.frozen? ⟨g,i,none⟩=false:=by
 unfold Bk at h;simp[World.frozen?,h]
theorem Bk.new (w:World)(t:TypeId)(cs:Array Value):Bk (w.alloc (.cells cs t)) w.heap.size t cs:=gK w _
theorem Bk.drewN (h:Bk w g t cs)(n:Nat):Bk (w.drewN n) g t cs:=h
theorem Bk.drew (h:Bk w g t cs):Bk w.drew g t cs:=h
theorem Bk.alloc (h:Bk w g t cs)(o:Obj):Bk (w.alloc o) g t cs:=(iy w o g h.lt).trans h
theorem Bk.kM (h:Bk w g t cs)(i:Nat)(u:Value):Bk (w.setCell ⟨g,i,none⟩ u) g t (cs.setIfInBounds i u):=by
 unfold Bk at h ⊢;simp[World.setCell,Array.getElem?_modify,h]
theorem Bk.far (h:Bk w g t cs){p:Addr}(hp:g≠p.block)(u:Value):Bk (w.setCell p u) g t cs:=(iE w p u g hp).trans h
theorem Bk.below {B:Nat}(h:Bk w g t cs)(hb:Below B w w')(hg:g<B):Bk w' g t cs:=(hb.block g hg).trans h
theorem Bk.grown {row:Option Nat}(h:Bk w g t cs)(hb:w.grownBy w' row)(hg:some g≠row):Bk w' g t cs:=(hb.block g h.lt hg).trans h
end
theorem qm (w:World)(row:Option Nat):w.grownBy w row:=World.grownBy.refl w _
theorem ajD {a b c:World}{row:Option Nat}(h:a.grownBy b row)(k:b.grownBy c row):a.grownBy c row:=
 ⟨k.os.trans h.os,k.tape.trans h.tape,k.output.trans h.output,aK h.size k.size,fun i hi hn=>(k.block i (aG hi h.size) hn).trans (h.block i hi hn)⟩
theorem DU {a w:World}{row:Option Nat}(h:a.grownBy w row)(n:Nat):a.grownBy (w.drewN n) row:=⟨h.os,h.tape,h.output,h.size,h.block⟩
theorem akf {a w:World}{row:Option Nat}(h:a.grownBy w row):a.grownBy w.drew row:=⟨h.os,h.tape,h.output,h.size,h.block⟩
theorem Jy {a w:World}{row:Option Nat}(h:a.grownBy w row)(o:Obj):a.grownBy (w.alloc o) row:=
 ⟨h.os,h.tape,h.output,aK h.size (by simp),fun i hi hne=>(iy w o i (aG hi h.size)).trans (h.block i hi hne)⟩
theorem Py {a w:World}{g:Nat}(h:a.grownBy w (some g)){p:Addr}(hp:p.block=g\/a.heap.size<=p.block)(u:Value):a.grownBy (w.setCell p u) (some g):=
 ⟨h.os,h.tape,h.output,by simpa[World.setCell] using h.size,fun i hi hne=>(iE w p u i (by
  rintro rfl;rcases hp with hp | hp
  ·exact hne (by rw[hp])
  ·omega)).trans (h.block i hi hne)⟩
theorem vS {a w w':World}{row:Option Nat}(h:a.grownBy w row)(hb:Below w.heap.size w w'):a.grownBy w' row:=
 ⟨hb.os.trans h.os,hb.tape.trans h.tape,hb.output.trans h.output,aK h.size hb.size,fun i hi hn=>(hb.block i (aG hi h.size)).trans (h.block i hi hn)⟩
theorem below_drewN {B:Nat}{a w:World}(h:Below B a w)(n:Nat):Below B a (w.drewN n):=⟨h.os,h.tape,h.output,h.size,h.block⟩
theorem J7 {a w w':World}(h:Below a.heap.size a w)(k:Below w.heap.size w w'):Below a.heap.size a w':=h.trans (k.mono h.size)
theorem rE {fn:Func}{t u v x:Tmp}(h:fn.results=#[.tmp t,.tmp u,.tmp v,.tmp x])(tmps:Array Value)(P:Program)(w:World) :
  (results fn tmps).run P w=.ok (.tuple #[tmps.getD t undef,tmps.getD u undef,tmps.getD v undef,tmps.getD x undef]) w:=by simp[results,h]
theorem qE {k:IntKind}{a b:Int}(h:a=b):Ending.returned (.int k a)=.returned (.int k b):=by rw[h]
def DY (k:IntKind)(xs:List Int):List Value:=xs.map (Value.int k)
def ints (xs:List Int):List Value:=xs.map (Value.int .i64)
theorem kH (xs:List Int):(ints xs).length=xs.length:=by simp[ints]
theorem ints_at (xs:List Int)(k:Nat):(ints xs)[k]?=(xs[k]?).map (Value.int .i64):=by simp[ints]
theorem CU (xs ys:List Int):ints (xs++ys)=ints xs++ints ys:=by simp[ints]
theorem rZ (w:World)(base:Nat)(e:TypeId)(cs:Array Value)(n:Nat)(hn:cs.size=n)(hm:n<=maxLen)(hb:base<=w.heap.size) :
  (w.alloc (.cells cs e)).ownsRow base e 1 (.slice (some ⟨w.heap.size,0,none⟩) n n) n cs.toList:=by
 subst hn;exact⟨by simp,.inr ⟨w.heap.size,cs.size,cs,rfl,hb,gK w _,ag _,hm,by simp,by rw[Nat.mul_one];exact aP (by simp)⟩⟩
def vG (T:TypeId)(xs:List Int)(w:World)(e:Ending)(w':World):Prop:=
 ∃ A c,e=.returned (.slice A xs.length c)/\w'.ownsRow w.heap.size T 1 (.slice A xs.length c) xs.length (ints xs)/\Below w.heap.size w w'
theorem vG.nil_ (T:TypeId)(w:World):vG T [] w (.returned (.slice none 0 0)) w:=⟨none,0,rfl,aH _ _ _ _,ai _ _⟩
theorem vG.built (T:TypeId)(w:World)(xs:List Int)(cs:Array Value)(n:Nat)(hcs:cs.toList=ints xs)(hn:xs.length=n)(hm:n<=maxLen) :
  vG T xs w (.returned (.slice (some ⟨w.heap.size,0,none⟩) n n)) (w.alloc (.cells cs T)):=by
 subst hn;have hsz:cs.size=xs.length:=by rw[<-jd,hcs,kH]
 refine⟨_,_,rfl,?_,(ai _ _).alloc (ag _) _⟩;rw[<-hcs];exact rZ w _ T cs _ hsz hm (ag _)
theorem xw {w:World}{base:Nat}{e:TypeId}{A:Option Addr}{n c:Nat}{xs:List Value}(h:w.ownsRow base e 1 (.slice A n c) n xs)(hn:0<n) :
  ∃ g,A=some ⟨g,0,none⟩/\base<=g/\g<w.heap.size/\n<=c/\(∀ j u,xs[j]?=some u->w.cell? ⟨g,j,none⟩=some u)/\∀ j,w.frozen? ⟨g,j,none⟩=false:=by
 rcases h.2 with ⟨_,h0⟩ | ⟨g,cap,cur,hv,hb,hh,hnc,_⟩
 ·omega
 ·injection hv with hA hl hc
  subst hA;subst hc;refine⟨g,rfl,hb,(d_.1 hh).1,hnc,fun j u hu=>?_,fun j=>by simp[World.frozen?,hh]⟩;have:=h.cells (g:=g) rfl j u hu;have ha:(⟨g,0,none⟩:Addr).add j=⟨g,j,none⟩:=by unfold Addr.add;split<;>simp_all
  rwa [ha] at this
theorem Wp {P:Program}{f:FuncId}{args:Array Value}{w:World}{n:Nat}{v:Value}
  (h:Calls P f args (w.drewN n) fun e w'=>e=.returned v/\w.drewN n=w'):Calls P f args (w.drewN n) fun e w''=>e=.returned v/\∃ m,w''=w.drewN m:=
 h.mono fun _ _ ⟨he,hm⟩=>⟨he,n,hm.symm⟩
def strs (l:List ByteArray):List Value:=l.map Value.string
theorem pF (l:List ByteArray):(strs l).length=l.length:=by simp[strs]
theorem xQ (l:List ByteArray)(k:Nat):(strs l)[k]?=(l[k]?).map Value.string:=by simp[strs]
theorem SK (l m:List ByteArray):strs (l++m)=strs l++strs m:=by simp[strs]
def al6 (T:TypeId)(l:List ByteArray)(w:World)(e:Ending)(w':World):Prop:=
 ∃ A c,e=.returned (.slice A l.length c)/\w'.ownsRow w.heap.size T 1 (.slice A l.length c) l.length (strs l)/\Below w.heap.size w w'
end Go.Proofs.YtkachcflifhgiaaGreatDoor
namespace Go.Proofs.YtkachcflifhgiaaGreatDoor.Rq
def pl (b:UInt8):Bool:=decide (33<=b.toNat/\b.toNat<=126/\b.toNat≠34/\b.toNat≠37)
def hx (b:UInt8):Int:=if 48<=b.toNat/\b.toNat<=57 then (b.toNat:Int)-48 else if 65<=b.toNat/\b.toNat<=70 then (b.toNat:Int)-55 else -1
theorem Oi (b:UInt8):-1<=hx b/\hx b<=15:=by unfold hx;split<;>(try split)<;>omega
def two (x y:UInt8):UInt8:=UInt8.ofNat (hx x*16+hx y).toNat
def o8:List UInt8->Option (List UInt8)
 | []=>some []
 | [b]=>if pl b then some [b] else none
 | [b,c]=>if pl b then (o8 [c]).map (b::·) else none
 | b::x::y::r=>if pl b then (o8 (x::y::r)).map (b::·) else if b=37/\0<=hx x/\0<=hx y then (o8 r).map (two x y::·) else none
theorem KI:o8 []=some []:=by unfold o8;rfl
theorem XW {b:UInt8}(r:List UInt8)(h:pl b=true):o8 (b::r)=(o8 r).map (b::·):=by
 match r with
 | []=>(conv=>lhs;unfold o8;rw[aj h]);rw[KI];rfl
 | [c]=>conv=>lhs;unfold o8;rw[aj h]
 | x::y::r=>conv=>lhs;unfold o8;rw[aj h]
theorem TR (x y:UInt8)(r:List UInt8)(hx0:0<=hx x)(hy0:0<=hx y):o8 (37::x::y::r)=(o8 r).map (two x y::·):=by
 conv=>lhs;unfold o8
 rw[ah (by decide),aj ⟨rfl,hx0,hy0⟩]
theorem aez {b:UInt8}(r:List UInt8)(h:pl b=false)(h37:b≠37):o8 (b::r)=none:=by
 have hn:¬pl b=true:=by rw[h];decide
 match r with
 | []=>unfold o8;rw[ah hn]
 | [c]=>unfold o8;rw[ah hn]
 | x::y::r=>unfold o8;rw[ah hn,ah (fun e=>h37 e.1)]
theorem XV (r:List UInt8)(h:r.length<2):o8 (37::r)=none:=by
 match r,h with
 | [],_=>unfold o8;rw[ah (by decide)]
 | [c],_=>unfold o8;rw[ah (by decide)]
 | x::y::r,h=>simp at h;omega
theorem TS (x y:UInt8)(r:List UInt8)(h:¬(0<=hx x/\0<=hx y)):o8 (37::x::y::r)=none:=by
 unfold o8;rw[ah (by decide),ah (fun e=>h e.2)]
def qA (w:List UInt8):List UInt8×Bool:=if w=[34,34] then ([],true) else match o8 w with
 | none=>([],false)
 | some l=>(l,!l.isEmpty)
def hd (n:Nat):UInt8:=[48,49,50,51,52,53,54,55,56,57,65,66,67,68,69,70].getD n 0
def qb (b:UInt8):List UInt8:=if pl b then [b] else [37,hd (b.toNat/16),hd (b.toNat%16)]
def qs:List UInt8->List UInt8
 | []=>[]
 | b::r=>qb b++qs r
def quote (l:List UInt8):List UInt8:=if l=[] then [34,34] else qs l
theorem agL (b:UInt8):1<=(qb b).length/\(qb b).length<=3:=by unfold qb;split<;>simp
theorem MH:∀ (l r:List UInt8),qs (l++r)=qs l++qs r
 | [],r=>rfl
 | b::l,r=>by rw[List.cons_append];show qb b++qs (l++r)=qb b++qs l++qs r;rw[MH l r,dQ]
theorem O8:∀ (l:List UInt8),l.length<=(qs l).length/\(qs l).length<=3*l.length
 | []=>by simp[qs]
 | b::l=>by have:=O8 l;have:=agL b;show _<=(qb b++qs l).length/\(qb b++qs l).length<=_;simp;omega
theorem aeY {l:List UInt8}{j:Nat}{b:UInt8}(h:l[j]?=some b):qs (l.take (j+1))=qs (l.take j)++qb b:=by
 obtain⟨h1,h2⟩:=ak.1 h;rw[az h1,h2,MH];simp[qs]
theorem ajH:∀ n:Fin 16,hx (hd n.val)=(n.val:Int):=by decide
theorem agq:∀ n:Fin 256,two (hd (n.val/16)) (hd (n.val%16))=UInt8.ofNat n.val:=by decide +kernel
theorem agp (b:UInt8):two (hd (b.toNat/16)) (hd (b.toNat%16))=b:=by
 have h:=agq ⟨b.toNat,b.toNat_lt⟩;simpa using h
theorem adS (n:Nat)(h:n<16):0<=hx (hd n):=by have:=ajH ⟨n,h⟩;simp only at this;omega
theorem Ou:∀ (l:List UInt8),o8 (qs l)=some l
 | []=>KI
 | b::l=>by
  show o8 (qb b++qs l)=_;unfold qb;cases hp:pl b
  ·rw[ah (by decide)];show o8 (37::hd (b.toNat/16)::hd (b.toNat%16)::qs l)=_;have hlt:=b.toNat_lt;rw[TR _ _ _ (adS _ (by omega)) (adS _ (by omega)),Ou l,agp];rfl
  ·rw[aj rfl];show o8 (b::qs l)=_;rw[XW _ hp,Ou l];rfl
theorem Qo:∀ n:Fin 16,33<=(hd n.val).toNat/\(hd n.val).toNat<=126/\(hd n.val).toNat≠34:=by decide
theorem agK (b:UInt8):∀ c∈qb b,33<=c.toNat/\c.toNat<=126/\c.toNat≠34:=by
 intro c hc;unfold qb at hc;split at hc
 ·rename_i h
  rw[aB.1 hc];have:=gm h;omega
 ·have hlt:=b.toNat_lt;have h1:=Qo ⟨b.toNat/16,by omega⟩;have h2:=Qo ⟨b.toNat%16,by omega⟩;simp only[aN,aZ,dw] at hc;rcases hc with rfl | rfl | rfl
  ·decide
  ·exact h1
  ·exact h2
theorem O7:∀ (l:List UInt8),∀ c∈qs l,33<=c.toNat/\c.toNat<=126/\c.toNat≠34
 | [],c,h=>by cases h
 | b::l,c,h=>by
  rcases aO.1 (show c∈qb b++qs l from h) with h | h
  ·exact agK b c h
  ·exact O7 l c h
theorem Yx (l:List UInt8):∀ c∈quote l,33<=c.toNat/\c.toNat<=126:=by
 intro c hc;unfold quote at hc;split at hc
 ·simp at hc;subst hc;decide
 ·have:=O7 l c hc;omega
theorem agJ (l:List UInt8):qs l≠[34,34]:=by
 intro e;have:=(O7 l 34 (by rw[e];simp)).2.2;exact this rfl
theorem NZ (l:List UInt8):qA (quote l)=(l,true):=by
 unfold quote;by_cases h:l=[]
 ·rw[aj h,h];rfl
 ·rw[ah h];unfold qA;rw[ah (agJ l),Ou l];cases l with
  | nil=>exact absurd rfl h
  | cons a b=>rfl
theorem Yy (l:List UInt8):1<=(quote l).length/\l.length<=(quote l).length/\(quote l).length<=3*l.length+2:=by
 unfold quote;split
 ·rename_i h;subst h;simp
 ·rename_i h
  have:=O8 l;have:0<l.length:=dK.2 h;omega
def pW:List UInt8->List (List UInt8)
 | []=>[[]]
 | b::r=>if b=32 then []::pW r else match pW r with
  | []=>[[b]]
  | h::t=>(b::h)::t
theorem Jg (l:List UInt8):pW l≠[]:=by
 cases l with
 | nil=>simp[pW]
 | cons b r=>unfold pW;split<;>(try split)<;>simp
def pre (x:List UInt8):List (List UInt8)->List (List UInt8)
 | []=>[x]
 | h::t=>(x++h)::t
theorem pre_nil {l:List (List UInt8)}(h:l≠[]):pre [] l=l:=by cases l with | nil=>exact absurd rfl h | cons a b=>rfl
theorem aa4 {b:UInt8}(r:List UInt8)(h:b≠32):pW (b::r)=pre [b] (pW r):=by
 conv=>lhs;unfold pW
 rw[ah h];have:=Jg r;cases hs:pW r with
 | nil=>exact absurd hs this
 | cons a t=>rfl
theorem L9 (r:List UInt8):pW (32::r)=[]::pW r:=by conv=>lhs;unfold pW;rw[aj rfl]
theorem ae5 (x y:List UInt8)(l:List (List UInt8))(h:l≠[]):pre x (pre y l)=pre (x++y) l:=by
 cases l with | nil=>exact absurd rfl h | cons a b=>simp[pre]
theorem DL:∀ (x:List UInt8) (r:List UInt8),(32:UInt8)∉x->pW (x++r)=pre x (pW r)
 | [],r,_=>(pre_nil (Jg r)).symm
 | b::x,r,h=>by
  have hb:b≠32:=fun e=>h (by rw[e];simp);rw[List.cons_append,aa4 _ hb,DL x r (fun e=>h (List.mem_cons_of_mem _ e)),ae5 _ _ _ (Jg r)];rfl
theorem Ub:∀ (l:List UInt8),(pW l).length<=l.length+1
 | []=>by simp[pW]
 | b::r=>by
  have h:=Ub r;unfold pW;split
  ·simp;exact h
  ·split
   ·simp
   ·rename_i h2;rw[h2] at h;simp at h ⊢;omega
theorem Ua:∀ (l:List UInt8) (x:List UInt8),x∈pW l->x.length<=l.length
 | [],x,h=>by simp[pW] at h;subst h;simp
 | b::r,x,h=>by
  have hr:=Ua r;unfold pW at h;split at h
  ·rcases aN.1 h with h | h
   ·subst h;simp
   ·have:=hr x h;simp;omega
  ·split at h
   ·simp at h;subst h;simp
   ·rename_i h2
    rcases aN.1 h with h | h
    ·subst h;have:=hr _ (by rw[h2];exact eF ..);simp;exact this
    ·have:=hr x (by rw[h2];exact List.mem_cons_of_mem _ h);simp;omega
def oper (w:List UInt8):Int:=if w=[72,79,76,68] then 1 else if w=[67,79,78,70,73,82,77] then 2 else if w=[82,69,78,69,87] then 3 else if w=[67,65,78,67,69,76] then 4
 else if w=[82,69,76,69,65,83,69] then 5 else if w=[80,85,82,71,69] then 6 else if w=[81,85,69,82,89] then 7 else 0
def oP (op:Int):Bool:=decide (op=1\/op=3)
def dg:List UInt8->Int->Option Int
 | [],n=>some n
 | b::r,n=>if 48<=b.toNat/\b.toNat<=57 then dg r (10*n+((b.toNat:Int)-48)) else none
def dec (w:List UInt8):Option Int:=if w=[]\/10<w.length\/(w[0]?=some 48/\1<w.length) then none else dg w 0
def ttl (op n:Int):Bool:=if oP op then decide (1<=n/\n<=1073741824) else decide (n=0)
structure R where
 op:Int
 ttl:Int
 names:List (List UInt8)
 err:Int
def names:List (List UInt8)->Option (List (List UInt8))
 | []=>some []
 | w::r=>if (qA w).2 then (names r).map ((qA w).1::·) else none
def rest (op n:Int)(l:List (List UInt8)):R:=match names l with
 | none=>⟨0,0,[],4⟩
 | some ns=>if op=7/\ns.length≠1 then ⟨0,0,[],4⟩ else if ttl op n then ⟨op,n,ns,0⟩ else ⟨0,0,[],3⟩
def words (op:Int)(l:List (List UInt8)):R:=if op=0 then ⟨0,0,[],4⟩ else if oP op then (match l with
 | []=>⟨0,0,[],4⟩
 | t::r=>match dec t with
  | none=>⟨0,0,[],4⟩
  | some n=>rest op n r) else rest op 0 l
def parse (s:List UInt8):R:=if 4096<s.length then ⟨0,0,[],7⟩ else words (oper ((pW s).headD [])) (pW s).tail
end Go.Proofs.YtkachcflifhgiaaGreatDoor.Rq
namespace Go.Proofs.YtkachcflifhgiaaGreatDoor
open Go Go.RowKit
structure jR (S:List Nat)(w w':World):Prop where
 os:w'.os=w.os
 tape:w'.tape=w.tape
 output:w'.output=w.output
 size:w.heap.size<=w'.heap.size
 block:∀ k:Nat,k<w.heap.size->k∉S->w'.heap[k]?=w.heap[k]?
section
variable {w w' w'':World} {S T:List Nat} {B:Nat}
theorem jR.refl (S:List Nat)(w:World):jR S w w:=⟨rfl,rfl,rfl,ag _,fun _ _ _=>rfl⟩
theorem jR.trans (h:jR S w w')(k:jR S w' w''):jR S w w'':=
 ⟨k.os.trans h.os,k.tape.trans h.tape,k.output.trans h.output,aK h.size k.size,fun i hi hn=>(k.block i (aG hi h.size) hn).trans (h.block i hi hn)⟩
theorem jR.more (h:jR S w w')(hs:∀ i:Nat,i∈S->i∈T):jR T w w':=
 ⟨h.os,h.tape,h.output,h.size,fun i hi hn=>h.block i hi fun hm=>hn (hs i hm)⟩
theorem jR.old (h:jR T w w')(hs:∀ i:Nat,i∈T->i<w.heap.size->i∈S):jR S w w':=
 ⟨h.os,h.tape,h.output,h.size,fun i hi hn=>h.block i hi fun hm=>hn (hs i hm hi)⟩
theorem jR.below (hb:Below B w w')(hB:w.heap.size<=B):jR S w w':=
 ⟨hb.os,hb.tape,hb.output,hb.size,fun i hi _=>hb.block i (by omega)⟩
theorem jR.add (h:jR S w w')(hb:Below B w' w'')(hB:w'.heap.size<=B):jR S w w'':=h.trans (.below hb hB)
theorem jR.fresh (h:jR S w w')(hb:Below B w'' w)(hs:∀ i:Nat,i∈S->B<=i)(hB:B<=w.heap.size):Below B w'' w':=
 ⟨h.os.trans hb.os,h.tape.trans hb.tape,h.output.trans hb.output,aK hb.size h.size,fun i hi=>(h.block i (by omega) (fun hm=>by have:=hs i hm;omega)).trans (hb.block i hi)⟩
theorem jR.drewN (h:jR S w w')(n:Nat):jR S w (w'.drewN n):=⟨h.os,h.tape,h.output,h.size,h.block⟩
theorem jR.drew (h:jR S w w'):jR S w w'.drew:=⟨h.os,h.tape,h.output,h.size,h.block⟩
theorem jR.alloc (h:jR S w w')(o:Obj):jR S w (w'.alloc o):=h.trans (.below ((ai w'.heap.size w').alloc (ag _) o) (ag _))
theorem jR.setCell (h:jR S w w'){p:Addr}(hp:p.block∈S\/w.heap.size<=p.block)(u:Value):jR S w (w'.setCell p u):=
 ⟨h.os,h.tape,h.output,by simpa[World.setCell] using h.size,fun i hi hn=>(iE w' p u i (by
  rintro rfl;rcases hp with hp | hp
  ·exact hn hp
  ·omega)).trans (h.block i hi hn)⟩
theorem jR.grown {row:Option Nat}(h:jR S w w')(hg:w'.grownBy w'' row)(hr:∀ g,row=some g->g∈S\/w.heap.size<=g):jR S w w'':=
 ⟨hg.os.trans h.os,hg.tape.trans h.tape,hg.output.trans h.output,aK h.size hg.size,fun i hi hn=>(hg.block i (aG hi h.size) (fun e=>by
  rcases hr i e.symm with hp | hp
  ·exact hn hp
  ·omega)).trans (h.block i hi hn)⟩
theorem jR.heap (h:jR S w w'){k:Nat}{o:Obj}(hk:w.heap[k]?=some o)(hn:k∉S):w'.heap[k]?=some o:=
 (h.block k (d_.1 hk).1 hn).trans hk
theorem Bk.jS {g:Nat}{t:TypeId}{cs:Array Value}(h:Bk w g t cs)(ho:jR S w w')(hn:g∉S):Bk w' g t cs:=jR.heap ho h hn
theorem jR.cell (h:jR S w w'){p:Addr}(hk:p.block<w.heap.size)(hn:p.block∉S):w'.cell? p=w.cell? p:=fE (h.block _ hk hn)
end
structure Inv (w:World)(N:Nat)(a:Nat->Nat)(P:Nat->Obj->Prop):Prop where
 inj:∀ i j:Nat,i<N->j<N->a i=a j->i=j
 has:∀ i:Nat,i<N->∃ o,w.heap[a i]?=some o/\P i o
end Go.Proofs.YtkachcflifhgiaaGreatDoor
