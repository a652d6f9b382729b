/-  -/
import Derived.Test.YtkachcflifhgiaaGreatDoorProg
import Derived.Test.YtkachcflifhgiaaGreatDoorM03
import Derived.Conc.LoneCalls
import Derived.Conc.LoneSelect
import Derived.Conc.LoneSelectN
import Derived.KernelRfl
import Derived.Laws.Rows
set_option linter.unusedVariables false
set_option maxRecDepth 100000
set_option maxHeartbeats 16000000
namespace Go.Proofs.YtkachcflifhgiaaGreatDoor
open Go Go.RowKit Go.Conc
def txt (l:List ByteArray):Array Value:=(l.map Value.string).toArray
def Box (w:World)(g c cap:Nat)(l:List ByteArray):Prop:=
 w.heap[g]?=some (.cells #[.chan (some c)] 168 (0,0))/\∃ s r,w.heap[c]?=some (.chan cap (txt l) false s r false)
theorem Box.lt {w:World}{g c cap:Nat}{l:List ByteArray}(h:Box w g c cap l):g<w.heap.size/\c<w.heap.size/\g≠c:=by
 obtain⟨h1,s,r,h2⟩:=h;refine⟨(d_.1 h1).1,(d_.1 h2).1,?_⟩;rintro rfl;rw[h1] at h2;injection h2 with h2;cases h2
theorem Box.cell {w:World}{g c cap:Nat}{l:List ByteArray}(h:Box w g c cap l):w.cell? ⟨g,0,none⟩=some (.chan (some c)):=by
 rw[jv w g 0 _ _ _ h.1];rfl
theorem Box.set {w:World}{g c cap:Nat}{l:List ByteArray}(h:Box w g c cap l)(l':List ByteArray)(s r:Nat):Box (w.setChan c cap (txt l') false s r false) g c cap l':=by
 obtain⟨hg,hc,hne⟩:=h.lt;refine⟨?_,s,r,heap_setChan w c cap _ false s r false hc⟩;have:(w.setChan c cap (txt l') false s r false).heap[g]?=w.heap[g]?:=by
  simp[World.setChan,Array.getElem?_setIfInBounds_ne hne.symm]
 rw[this];exact h.1
theorem Box.below {w w':World}{g c cap B:Nat}{l:List ByteArray}(h:Box w g c cap l)(hb:Below B w w')(hg:g<B)(hc:c<B):Box w' g c cap l:=by
 obtain⟨h1,s,r,h2⟩:=h;exact⟨(hb.block g hg).trans h1,s,r,(hb.block c hc).trans h2⟩
theorem EU {w:World}(c cap:Nat)(buf:Array Value)(cl:Bool)(s r:Nat)(tm:Bool):w.grownBy (w.setChan c cap buf cl s r tm) (some c):=
 ⟨rfl,rfl,rfl,by simp[World.setChan],fun k hk hn=>by
  simp only[World.setChan];rw[Array.getElem?_setIfInBounds_ne (by rintro rfl;exact hn rfl)]⟩
theorem TB:∃ i,Tryz.prog.info? 9=some i/\i.bytes=16:=by
 have h:(Tryz.prog.info? 9).map (·.bytes)=some 16:=by kernel_rfl
 obtain⟨i,hi,hb⟩:=gB.1 h;exact⟨i,hi,hb⟩
theorem afh (n:Nat)(hn:n<=8)(w:World):(Instr.makeChan 166 (.int .i64 (n:Int))).run Tryz.prog w=.ok (.chan (some w.heap.size)) (w.alloc (.chan n #[] false 0 0 false)):=by
 obtain⟨i,hi,hb⟩:=TB;exact run_makeChan (P:=Tryz.prog) (w:=w) Tryz.underlying166 hi .i64 n (by omega) (by rw[hb];omega)
def aib (n:Nat)(w:World)(e:Ending)(w':World):Prop:=
 ∃ g c,e=.returned (.tuple #[.pointer (some ⟨g,0,none⟩),.int .i64 0])/\Box w' g c n []/\w.heap.size<=g/\w.heap.size<=c/\Below w.heap.size w w'
theorem aff (n:Nat)(h1:1<=n)(h8:n<=8)(w:World):Calls Tryz.prog 43 #[.int .i64 (n:Int)] w (aib n w):=by
 have hmc:=afh n h8;have a1:(1:Int)<=(n:Int):=by omega
 have a2:(n:Int)<=8:=by omega
 go_enter Tryz.func43,Tryz.ntmps43
 go_wp2
 go_ret2
 refine⟨w.heap.size+1,w.heap.size,rfl,⟨?_,0,0,?_⟩,by omega,by omega,((ai _ _).alloc (ag _) _).alloc (by simp) _⟩
 ·have:=gK (w.alloc (.chan n #[] false 0 0 false)) (.cells #[.chan (some w.heap.size)] 168);simpa using this
 ·rw[iy _ _ _ (by simp)];exact gK w _
theorem len_any (g c cap:Nat)(l:List ByteArray)(w:World)(hx:Box w g c cap l) :
  Calls Tryz.prog 51 #[.pointer (some ⟨g,0,none⟩)] w fun e w'=>e=.returned (.int .i64 (l.length:Int))/\w=w':=by
 have hc:=hx.cell;obtain⟨_,s,r,h2⟩:=hx;have hl:=fun ty=>run_len_chan (P:=Tryz.prog) 166 ty Tryz.underlying166 h2;have hs:(txt l).size=l.length:=by simp[txt]
 rw[hs] at hl;clear hs h2;go_enter Tryz.func51,Tryz.ntmps51
 go_wp2
 go_ret
 exact⟨rfl,rfl⟩
theorem aeZ (g c cap:Nat)(l:List ByteArray)(t:ByteArray)(w:World)(hx:Box w g c cap l)(hr:l.length<cap) :
  Calls Tryz.prog 47 #[.pointer (some ⟨g,0,none⟩),.string t] w fun e w'=>e=.returned (.bool true)/\Box w' g c cap (l++[t])/\w.grownBy w' (some c):=by
 have hcell:=hx.cell;obtain⟨_,s,r,h2⟩:=id hx;refine calls_of_loneTo fun cs=>?_;have e:Frame.enter Tryz.prog 47 #[.pointer (some ⟨g,0,none⟩),.string t] .normal=(base 47).at ⟨#[.pointer (some ⟨g,0,none⟩),.string t,undef,undef,undef,undef,undef,undef,undef,undef,undef,undef,undef],[]⟩ [.code (Tryz.f47.body.getD .skip)]:=by
  simp[Frame.enter,Frame.at,Tryz.func47,base,Tryz.f47]
 rw[e];clear e;refine LoneTo.goes (n:=20) ?_;simp only[Tryz.f47,Option.getD_some];s_c stepG_seq
 s_reg
 s_op
 s_c stepG_region_end
 s_c stepG_seq
 s_c stepG_seq
 s_reg
 s_op
 s_op
 s_op
 s_op
 s_c stepG_region_end
 s_reg
 s_op
 s_c stepG_region_end
 s_c stepG_seq
 s_reg
 s_stop
 refine LoneTo.step (step_lone_select_send_room (c:=c) (cap:=cap) (buf:=txt l) (s:=s) (r:=r) (tm:=false) (v:=.string t) (z':=.string ByteArray.empty)
  (stepG_comm (cases:=#[scase c (.string t) (.string ByteArray.empty)]) (blocking:=false) (shape:=.select) (w':=w) rfl rfl (by decide) (by simp[go_sem,execOp,scase,Act.eval];rfl)) h2 (by simpa[txt] using hr)) ?_
 rw[Frame.finish_at];walk_nrm
 refine LoneTo.goes (n:=20) ?_;s_op
 s_op
 s_c stepG_region_end
 s_c stepG_block
 s_cond true
 s_c stepG_seq
 s_reg
 s_op
 s_c stepG_region_end
 s_c stepG_ret'
 s_stop
 have hb:(txt l).push (.string t)=txt (l++[t]):=by simp[txt]
 rw[hb];refine LoneTo.done ⟨.returned (.bool true),_,rfl,⟨rfl,hx.set _ _ _,EU c cap _ false _ _ false⟩,rfl,rfl,rfl,rfl,_,Tryz.func47,by simp[results,Tryz.f47,Frame.at]⟩
theorem aaZ (g c cap:Nat)(t:ByteArray)(l:List ByteArray)(w:World)(hx:Box w g c cap (t::l)) :
  Calls Tryz.prog 159 #[.pointer (some ⟨g,0,none⟩)] w fun e w'=>e=.returned (.tuple #[.string t,.bool true])/\Box w' g c cap l/\w.grownBy w' (some c):=by
 have hcell:=hx.cell;obtain⟨_,s,r,h2⟩:=id hx;refine calls_of_loneTo fun cs=>?_;have e:Frame.enter Tryz.prog 159 #[.pointer (some ⟨g,0,none⟩)] .normal=(base 159).at ⟨#[.pointer (some ⟨g,0,none⟩),undef,undef,undef,undef,undef,undef,undef,undef,undef,undef,undef,undef,undef],[]⟩ [.code (Tryz.f159.body.getD .skip)]:=by
  simp[Frame.enter,Frame.at,Tryz.func159,base,Tryz.f159]
 rw[e];clear e;refine LoneTo.goes (n:=20) ?_;simp only[Tryz.f159,Option.getD_some];s_c stepG_seq
 s_reg
 s_op
 s_op
 s_c stepG_region_end
 s_c stepG_seq
 s_reg
 s_op
 s_op
 s_op
 s_op
 s_c stepG_region_end
 s_c stepG_seq
 s_reg
 s_stop
 refine LoneTo.step (step_lone_select_recv_buf (c:=c) (cap:=cap) (buf:=txt (t::l)) (closed:=false) (s:=s) (r:=r) (tm:=false) (z:=.string ByteArray.empty)
  (stepG_comm (cases:=#[rcase c (.string ByteArray.empty)]) (blocking:=false) (shape:=.select) (w':=w) rfl rfl (by decide) (by simp[go_sem,execOp,rcase,Act.eval];rfl)) h2 (by simp[txt])) ?_
 have hb:(txt (t::l)).extract 1 (txt (t::l)).size=txt l:=by
  simp[txt];exact aP (by simp)
 have hd:(txt (t::l)).getD 0 undef=.string t:=by simp[txt]
 rw[hb,hd];rw[Frame.finish_at];walk_nrm
 refine LoneTo.goes (n:=20) ?_;s_op
 s_op
 s_c stepG_region_end
 s_c stepG_block
 s_cond true
 s_c stepG_seq
 s_reg
 s_op
 s_op
 s_c stepG_region_end
 s_c stepG_seq
 s_reg
 s_op
 s_op
 s_op
 s_c stepG_region_end
 s_c stepG_ret'
 s_stop
 refine LoneTo.done ⟨.returned (.tuple #[.string t,.bool true]),_,rfl,⟨rfl,hx.set _ _ _,EU c cap _ false _ _ false⟩,rfl,rfl,rfl,rfl,_,Tryz.func159,by simp[results,Tryz.f159,Frame.at]⟩
end Go.Proofs.YtkachcflifhgiaaGreatDoor
