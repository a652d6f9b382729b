/-   -/
import Derived.Test.YtkachcflifhgiaaGreatDoorM08
import Derived.Deep.DeepCutAuto
import Derived.Deep.CutBlock
import Derived.Laws.ResultCell
set_option linter.unusedVariables false
set_option maxRecDepth 100000
set_option maxHeartbeats 16000000
namespace Go.Proofs.YtkachcflifhgiaaGreatDoor
open Go Go.RowKit
def Rq.wd (j:Nat):List UInt8:=[[],[72,79,76,68],[67,79,78,70,73,82,77],[82,69,78,69,87],[67,65,78,67,69,76],[82,69,76,69,65,83,69],[80,85,82,71,69],[81,85,69,82,89]].getD j []
theorem Rq.Uy (j:Nat)(h0:0<j)(h8:j<8):Rq.oper (Rq.wd j)=(j:Int):=by
 have:j=1\/j=2\/j=3\/j=4\/j=5\/j=6\/j=7:=by omega
 rcases this with rfl | rfl | rfl | rfl | rfl | rfl | rfl<;>decide
theorem Rq.YH {w:List UInt8}(h:∀ i,0<i->i<8->Rq.wd i≠w):Rq.oper w=0:=by
 unfold Rq.oper;rw[ah (fun e=>h 1 (by omega) (by omega) e.symm),ah (fun e=>h 2 (by omega) (by omega) e.symm),ah (fun e=>h 3 (by omega) (by omega) e.symm),ah (fun e=>h 4 (by omega) (by omega) e.symm),
  ah (fun e=>h 5 (by omega) (by omega) e.symm),ah (fun e=>h 6 (by omega) (by omega) e.symm),ah (fun e=>h 7 (by omega) (by omega) e.symm)]
def Dc:Array Value:=#[.string ⟨#[]⟩,.string ⟨#[72,79,76,68]⟩,.string ⟨#[67,79,78,70,73,82,77]⟩,.string ⟨#[82,69,78,69,87]⟩,.string ⟨#[67,65,78,67,69,76]⟩,.string ⟨#[82,69,76,69,65,83,69]⟩,.string ⟨#[80,85,82,71,69]⟩,.string ⟨#[81,85,69,82,89]⟩]
theorem Ja (j:Nat)(h8:j<8):Dc[j]?=some (.string (str (Rq.wd j))):=by
 have:j=0\/j=1\/j=2\/j=3\/j=4\/j=5\/j=6\/j=7:=by omega
 rcases this with rfl | rfl | rfl | rfl | rfl | rfl | rfl | rfl<;>rfl
theorem EC (w:World):Calls Tryz.prog 96 #[] w fun e w'=>e=.returned (.slice (some ⟨w.heap.size,0,none⟩) 8 8)/\w'=w.alloc (.cells Dc 9):=by
 go_enter Tryz.func96,Tryz.ntmps96
 go_wp2
 go_ret
 exact⟨rfl,rfl⟩
theorem N_ (s:ByteArray)(w:World):Calls Tryz.prog 61 #[.string s] w fun e w'=>e=.returned (.int .i64 (Rq.oper (lst s)))/\Below w.heap.size w w':=by
 go_enter Tryz.func61,Tryz.ntmps61
 go_wp2_with fail
 refine (EC _).mono ?_;rintro e w1 ⟨rfl,hw1⟩;have hb1:Below w.heap.size w w1:=by rw[hw1];exact (ai _ _).alloc (ag _) _
 have hcell:∀ j,j<8->w1.cell? ⟨w.heap.size,j,none⟩=some (.string (str (Rq.wd j))):=by
  intro j hj;rw[hw1,(Bk.new w 9 Dc).cell,Ja j hj]
 have HB:=jP hb1;have HC:=jP hcell;clear hw1 hb1 hcell;go_wp2_with fail
 go_loopw [7] (fun vi wr=>∃ j:Nat,j<=8/\vi=.int .i64 j/\(∀ i,0<i->i<j->Rq.wd i≠lst s)/\w1=wr) (fun vi _=>8-(intOf vi).toNat)
 case atStart=>exact⟨0,by omega,rfl,fun i h1 h2=>by omega,rfl⟩
 case round=>
  obtain⟨j,hj,rfl,hn,rfl⟩:=hrel;have HN:=jP hn;clear hn;by_cases hlt:j<8
  ·have hc:=HC.1 j hlt;by_cases h0:0<j
   ·by_cases he:Rq.wd j=lst s
    ·have hb:((str (Rq.wd j)).toList==s.toList)=true:=by rw[xh,xh,oh,beq_iff_eq];exact he
     have ho:=Rq.Uy j h0 hlt;rw[he] at ho;have HOP:=jP ho;clear ho he;go_wp2
     go_ret
     exact⟨by rw[HOP.1];rfl,HB.1⟩
    ·have hb:((str (Rq.wd j)).toList==s.toList)=false:=by rw[xh,xh,oh,aX];exact he
     have hn2:∀ i,0<i->i<j+1->Rq.wd i≠lst s:=by
      intro i h1 h2;by_cases h3:i=j
      ·rw[h3];exact he
      ·exact HN.1 i h1 (by omega)
     have ry:=jP hn2;clear hn2 he;go_wp2
     go_roundw
     case rel=>exact⟨j+1,by omega,by go_num,ry.1,trivial⟩
     case measure=>simp[intOf];omega
   ·have hj0:j=0:=by omega
    subst hj0;go_wp2
    go_roundw
    case rel=>exact⟨1,by omega,rfl,fun i h1 h2=>by omega,trivial⟩
    case measure=>simp[intOf]
  ·have ho:Rq.oper (lst s)=0:=Rq.YH (fun i h1 h2=>HN.1 i h1 (by omega));have HOP:=jP ho;clear ho;go_wp2
   go_ret
   exact⟨by rw[HOP.1];rfl,HB.1⟩
def QG:Option Int->Value
 | none=>.tuple #[.int .i64 0,.bool false]
 | some n=>.tuple #[.int .i64 n,.bool true]
theorem GL {b:UInt8}(r:List UInt8)(n:Int)(h:48<=b.toNat/\b.toNat<=57):Rq.dg (b::r) n=Rq.dg r (10*n+((b.toNat:Int)-48)):=by conv=>lhs;unfold Rq.dg;rw[aj h]
theorem QD {b:UInt8}(r:List UInt8)(n:Int)(h:¬(48<=b.toNat/\b.toNat<=57)):Rq.dg (b::r) n=none:=by unfold Rq.dg;rw[ah h]
theorem TF (s:ByteArray)(hs:s.size<=1000000000000)(w:World):Calls Tryz.prog 63 #[.string s] w fun e w'=>e=.returned (QG (Rq.dec (lst s)))/\Below w.heap.size w w':=by
 have hcond:(s.size=0/\Rq.dec (lst s)=none)\/(10<s.size/\Rq.dec (lst s)=none)\/(∃ h:0<s.size,s[0].toNat=48/\1<s.size/\s.size<=10/\Rq.dec (lst s)=none) \/
   (∃ h:0<s.size,s.size<=10/\(s[0].toNat≠48\/s.size=1)/\Rq.dec (lst s)=Rq.dg (lst s) 0):=by
  unfold Rq.dec;by_cases h0:s.size=0
  ·left;refine⟨h0,?_⟩;rw[aj (.inl (bu (by rw[jV];exact h0)))]
  by_cases h1:10<s.size
  ·right;left;refine⟨h1,?_⟩;rw[aj (.inr (.inl (by rw[jV];exact h1)))]
  have h00:0<s.size:=by omega
  have hat:=wH s 0 h00;by_cases h2:s[0].toNat=48/\1<s.size
  ·right;right;left;refine⟨h00,h2.1,h2.2,by omega,?_⟩;have h48:s[0]=48:=UInt8.toNat_inj.1 h2.1;rw[aj (.inr (.inr ⟨by rw[hat,h48],by rw[jV];exact h2.2⟩))]
  ·right;right;right;refine⟨h00,by omega,?_,?_⟩
   ·by_cases h:s[0].toNat=48
    ·right;have:¬1<s.size:=fun e=>h2 ⟨h,e⟩;omega
    ·left;exact h
   rw[ah];rintro (h | h | ⟨h,h3⟩)
   ·have:=aV List.length h;rw[jV,List.length_nil] at this;omega
   ·rw[jV] at h;omega
   ·rw[hat] at h;injection h with h
    rw[jV] at h3;exact h2 ⟨by rw[h];rfl,h3⟩
 rcases hcond with ⟨h0,hd⟩ | ⟨h1,hd⟩ | ⟨h0,h48,h1,h10,hd⟩ | ⟨h0,h10,h2,hd⟩
 ·have hs0:s=⟨#[]⟩:=by rw[<-uF s,bu (show (lst s).length=0 by rw[jV];exact h0)];rfl
  subst hs0;have HD:=jP hd;clear hd;go_enter Tryz.func63,Tryz.ntmps63
  go_wp2
  go_ret2
  exact⟨by rw[HD.1];rfl,ai _ _⟩
 ·have hse:s.toList.isEmpty=false:=by rw[size_empty];exact bD (by omega)
  have HD:=jP hd;clear hd;go_enter Tryz.func63,Tryz.ntmps63
  go_wp2
  go_ret2
  exact⟨by rw[HD.1];rfl,ai _ _⟩
 ·have hse:s.toList.isEmpty=false:=by rw[size_empty];exact bD (by omega)
  have apa:(s[0].toNat:Int)=48:=by omega
  have HD:=jP hd;clear hd h48;go_enter Tryz.func63,Tryz.ntmps63
  go_wp2
  go_ret2
  exact⟨by rw[HD.1];rfl,ai _ _⟩
 ·have hse:s.toList.isEmpty=false:=by rw[size_empty];exact bD (by omega)
  obtain⟨cc,w2,hcv,uu,hsz2,hcc,hcells,hfz⟩:=uw s w;have HD:=jP hd;have HB:=jP uu;have NV:=jP hcells;clear hd uu hcells hfz;have hgd:(((s[0].toNat:Int)==48)=true/\s.size=1)\/((s[0].toNat:Int)==48)=false:=by
   by_cases h:s[0].toNat=48
   ·left;exact⟨by simp[h],by omega⟩
   ·right;rw[aX];omega
  have HZ:=jP h0;clear h2;have hs10:s.size<=10:=h10;have ahm:∀ j:Nat,j<=10->(10:Int) ^ j<=10000000000:=by
   intro j hj;have:∀ k:Fin 11,(10:Int) ^ k.val<=10000000000:=by decide
   exact this ⟨j,by omega⟩
  have HPW:=jP ahm;clear ahm;rcases hgd with ⟨g1,g2⟩ | g1
  all_goals
   go_enter Tryz.func63,Tryz.ntmps63
   go_wp2_with fail
   clear g1;go_loopw [4,27] (fun vn vi wr=>∃ (j:Nat) (n:Int),j<=s.size/\vi=.int .i64 j/\vn=.int .i64 n/\0<=n/\n+1<=10 ^ j/\Rq.dg (lst s) 0=Rq.dg ((lst s).drop j) n/\w2=wr) (fun _ vi _=>s.size-(intOf vi).toNat)
   case atStart=>exact⟨0,0,by omega,rfl,rfl,by omega,by simp,by rw[List.drop_zero],rfl⟩
   case round=>
    obtain⟨j,n,hj,rfl,rfl,n0,n1,hdg,rfl⟩:=hrel;have Ig:=jP hdg;clear hdg;by_cases hlt:j<s.size
    ·have hdr:=x_ s j hlt;have HDR:=jP hdr;clear hdr;have hc:=NV.1 j _ (wH s j hlt);have hp1:=HPW.1 (j+1) (by omega);have hp2:(10:Int) ^ (j+1)=10 ^ j*10:=Int.pow_succ 10 j;have hn9:n<=1000000000:=by omega
     have hn1:10*n+10<=10 ^ (j+1):=by omega
     have wJ:=jP hn1;clear hp1 hp2 n1 hn1;by_cases hd:48<=s[j].toNat/\s[j].toNat<=57
     ·have hg:=GL ((lst s).drop (j+1)) n hd;have HG:=jP hg;clear hg;obtain⟨d0,d1⟩:48<=(s[j].toNat:Int)/\(s[j].toNat:Int)<=57:=by omega
      clear hd;generalize (s[j].toNat:Int)=d at *;go_wp2
      go_roundw
      case rel=>exact⟨j+1,10*n+(d-48),by omega,by go_num,by go_num,by omega,by have:=wJ.1;omega,by rw[Ig.1,HDR.1,HG.1],trivial⟩
      case measure=>simp[intOf];omega
     ·have hg:=QD ((lst s).drop (j+1)) n hd;have hF:Rq.dec (lst s)=none:=by rw[HD.1,Ig.1,HDR.1,hg]
      have HF:=jP hF;have hd2:(s[j].toNat:Int)<48\/57<(s[j].toNat:Int):=by omega
      clear hg hF hd;generalize (s[j].toNat:Int)=d at *;rcases hd2 with hd2 | hd2
      all_goals
       go_wp2
       go_ret2
       exact⟨by rw[HF.1];rfl,HB.1⟩
    ·have hd0:(lst s).drop j=[]:=eU (by rw[jV];omega);have hF:Rq.dec (lst s)=some n:=by rw[HD.1,Ig.1,hd0];rfl
     have HF:=jP hF;clear hF hd0;go_wp2
     go_ret2
     exact⟨by rw[HF.1];rfl,HB.1⟩
def Yr (op ttl:Int)(A:Option Addr)(n c:Nat):Array Value:=#[.int .i64 op,.int .i64 ttl,.slice A n c]
def vF (r:Rq.R)(w:World)(e:Ending)(w':World):Prop:=
 ∃ A n c,e=.returned (.tuple #[.agg (Yr r.op r.ttl A n c),.int .i64 r.err])/\r.names.length=n/\w'.ownsRow w.heap.size 9 1 (.slice A n c) n (strs (r.names.map str))/\Below w.heap.size w w'
theorem rf {fn:Func}{p u:Tmp}(h:fn.results=#[.cell p 71,.tmp u])(tmps:Array Value)(w:World)(g:Nat)(cs:Array Value)(hcs:cs.size=3)
  (hp:tmps.getD p undef=.pointer (some ⟨g,0,none⟩)) (hg:Bk w g 71 cs):(results fn tmps).run Tryz.prog w=.ok (.tuple #[.agg cs,tmps.getD u undef]) w:=by
 rw[results_cell_tmp h,hp];have hl:=run_loadVar_row (P:=Tryz.prog) w g 71 71 cs (0,0) _ hg Tryz.underlying71 rfl (by rw[hcs];kernel_rfl);simp[asAddr,Result.andThen,hl]
theorem vF.bad {r:Rq.R}{n:Int}{w w':World}(hr:r=⟨0,0,[],n⟩)(hb:Below w.heap.size w w'):vF r w (.returned (.tuple #[.agg #[.int .i64 0,.int .i64 0,.slice none 0 0],.int .i64 n])) w':=by
 subst hr;exact⟨none,0,0,rfl,rfl,aH _ _ _ _,hb⟩
theorem abj {w:World}{base n c:Nat}{A:Option Addr}{h:ByteArray}{t:List ByteArray}(ho:w.ownsRow base 9 1 (.slice A (n+1) c) (n+1) (strs (h::t))) :
  ∃ g,A=some ⟨g,0,none⟩/\base<=g/\g<w.heap.size/\n+1<=c/\w.cell? ⟨g,0,none⟩=some (.string h):=by
 have hcs:=fun (g:Nat)=>ho.cells (g:=g);rcases ho.2 with ⟨_,h0⟩ | ⟨g,cap,cur,hv,hbg,hh,hnc,hcm,hsz,htk⟩
 ·omega
 ·injection hv with e1 e2 e3
  subst e1;subst e3;exact⟨g,rfl,hbg,(d_.1 hh).1,hnc,hcs g rfl 0 _ rfl⟩
theorem aa8:∀ w':World,(sizeOf (Tryz.prog.elem 46)).run Tryz.prog w'=.ok 1 w':=by
 obtain⟨i0,hi,hz0,hz1,hz2⟩:=dR Qc;intro w';rw[show Tryz.prog.elem 46=9 by kernel_rfl];simp[sizeOf,typeInfo,hi,hz1]
theorem OC {w:World}{B g off n c:Nat}{l:List ByteArray}(hr:Rd w B 1 (some ⟨g,off,none⟩) (n+1) (strs l))(hc:n+1<=c) :
  ∃ A' c',(∀ w',(Instr.slice 46 (.slice (some ⟨g,off,none⟩) (n+1) c) (some (.int .i64 1)) none none).run Tryz.prog w'=.ok (.slice A' n c') w')/\Rd w B 1 A' n (strs l.tail)/\n<=c':=by
 have ht:Tryz.prog.underlying 46=some (.slice (Tryz.prog.elem 46)):=by kernel_rfl
 have e1:=fun w'=>run_slice_l (P:=Tryz.prog) (w:=w') 46 (some ⟨g,off,none⟩) (n+1) c ht .i64 1 (by omega) (by omega);have hll:l.length=n+1:=by have:=hr.1;rw[pF] at this;omega
 refine⟨(if c=1 then some ⟨g,off,none⟩ else (some (⟨g,off,none⟩:Addr)).map (·.add (1*1))),c-1,fun w'=>?_,⟨?_,fun h0=>?_⟩,by omega⟩
 ·rw[e1,aa8];show Result.ok (sliced (some ⟨g,off,none⟩) ((1:Int).toNat) (n+1) c 1) w'=_;unfold sliced;rfl
 ·rw[pF,List.length_tail];omega
 ·rw[pF,List.length_tail] at h0;obtain⟨b,o,h1,h2,h3⟩:=hr.2 (by rw[pF];omega);injection h1 with h1;injection h1 with h1 h4;subst h1;subst h4
  refine⟨g,off+1,?_,h2,fun j u hj=>?_⟩
  ·rw[ah (by omega)];show some (Addr.add ⟨g,off,none⟩ (1*1))=_;rw[LW]
  ·rw[jg];refine h3 (1+j) u ?_;rw[xQ] at hj ⊢;rw[List.getElem?_tail] at hj;rwa [Nat.add_comm 1 j]
theorem kD {w w':World}{base:Nat}{e:TypeId}{size:Nat}{v:Value}{n:Nat}{xs:List Value}(h:w.ownsRow base e size v n xs)(hb:Below w.heap.size w w'):w'.ownsRow base e size v n xs:=
 h.kept (vS (qm w none) hb) (by cases v.ownBlock<;>simp)
theorem JC {x:List UInt8}(r:List (List UInt8))(h:(Rq.qA x).2=true):Rq.names (x::r)=(Rq.names r).map ((Rq.qA x).1::·):=by conv=>lhs;unfold Rq.names;rw[aj h]
theorem YM {x:List UInt8}(r:List (List UInt8))(h:(Rq.qA x).2=false):Rq.names (x::r)=none:=by unfold Rq.names;rw[ah (by rw[h];decide)]
theorem abM {o:Option (List (List UInt8))}(out:List (List UInt8))(b:List UInt8):(o.map (b::·)).map (out++·)=o.map ((out++[b])++·):=by cases o<;>simp
theorem abl {op n:Int}{l:List (List UInt8)}(h:Rq.names l=none):Rq.rest op n l=⟨0,0,[],4⟩:=by unfold Rq.rest;rw[h]
theorem MG {op n:Int}{l ns:List (List UInt8)}(h:Rq.names l=some ns):Rq.rest op n l=if op=7/\ns.length≠1 then ⟨0,0,[],4⟩ else if Rq.ttl op n then ⟨op,n,ns,0⟩ else ⟨0,0,[],3⟩:=by unfold Rq.rest;rw[h]
theorem zero3 {w W:World}(hg:Bk W w.heap.size 71 #[.int .i64 0,.int .i64 0,.slice none 0 0])(hb:Below w.heap.size w W) :
  Bk (((W.setCell ⟨w.heap.size,0,none⟩ (.int .i64 0)).setCell ⟨w.heap.size,1,none⟩ (.int .i64 0)).setCell ⟨w.heap.size,2,none⟩ (.slice none 0 0)) w.heap.size 71 #[.int .i64 0,.int .i64 0,.slice none 0 0] /\
  Below w.heap.size w (((W.setCell ⟨w.heap.size,0,none⟩ (.int .i64 0)).setCell ⟨w.heap.size,1,none⟩ (.int .i64 0)).setCell ⟨w.heap.size,2,none⟩ (.slice none 0 0)):=by
 refine⟨((hg.kM 0 _).kM 1 _).kM 2 _,?_⟩;have h1:=hb.setCell (p:=⟨w.heap.size,0,none⟩) (ag _) (.int .i64 0);have h2:=h1.setCell (p:=⟨w.heap.size,1,none⟩) (ag _) (.int .i64 0);exact h2.setCell (p:=⟨w.heap.size,2,none⟩) (ag _) (.slice none 0 0)
theorem Oo {op:Int}(h0:op≠0)(l:List (List UInt8)):Rq.words op l=if Rq.oP op then (match l with
 | []=>⟨0,0,[],4⟩
 | t::r=>match Rq.dec t with
  | none=>⟨0,0,[],4⟩
  | some n=>Rq.rest op n r) else Rq.rest op 0 l:=by
 unfold Rq.words;rw[ah h0];cases l with
 | nil=>rfl
 | cons a b=>cases h:Rq.dec a<;>simp[h]
theorem aa_ {w W:World}{b5 j c':Nat}{A':Option Addr}{ns:List (List UInt8)}(hg:Bk W w.heap.size 71 #[.int .i64 0,.int .i64 0,.slice none 0 0])(hb:Below w.heap.size w W)
  (ho:W.ownsRow (b5+1) 9 1 (.slice A' j c') j (strs (ns.map str))) (hlt:w.heap.size<b5) (hns:ns.length=j) (op ttl:Int) :
  Bk (((W.setCell ⟨w.heap.size,0,none⟩ (.int .i64 op)).setCell ⟨w.heap.size,1,none⟩ (.int .i64 ttl)).setCell ⟨w.heap.size,2,none⟩ (.slice A' j c')) w.heap.size 71 #[.int .i64 op,.int .i64 ttl,.slice A' j c'] /\
  vF ⟨op,ttl,ns,0⟩ w (.returned (.tuple #[.agg #[.int .i64 op,.int .i64 ttl,.slice A' j c'],.int .i64 0])) (((W.setCell ⟨w.heap.size,0,none⟩ (.int .i64 op)).setCell ⟨w.heap.size,1,none⟩ (.int .i64 ttl)).setCell ⟨w.heap.size,2,none⟩ (.slice A' j c')):=by
 refine⟨((hg.kM 0 _).kM 1 _).kM 2 _,A',j,c',rfl,hns,?_,?_⟩
 ·have h1:=aQ ho (a:=⟨w.heap.size,0,none⟩) (by show w.heap.size<_;omega) (.int .i64 op);have h2:=aQ h1 (a:=⟨w.heap.size,1,none⟩) (by show w.heap.size<_;omega) (.int .i64 ttl);have h3:=aQ h2 (a:=⟨w.heap.size,2,none⟩) (by show w.heap.size<_;omega) (.slice A' j c');exact lH h3 (by omega)
 ·have h1:=hb.setCell (p:=⟨w.heap.size,0,none⟩) (ag _) (.int .i64 op);have h2:=h1.setCell (p:=⟨w.heap.size,1,none⟩) (ag _) (.int .i64 ttl);exact h2.setCell (p:=⟨w.heap.size,2,none⟩) (ag _) (.slice A' j c')
theorem parse_any (s:ByteArray)(w:World):Calls Tryz.prog 22 #[.string s] w (vF (Rq.parse (lst s)) w):=by
 by_cases hlong:4096<s.size
 ·have hp:Rq.parse (lst s)=⟨0,0,[],7⟩:=by unfold Rq.parse;rw[aj (by rw[jV];exact hlong)]
  have HP:=jP hp;clear hp;go_enter Tryz.func22,Tryz.ntmps22
  go_wp2
  refine aS (rf (p:=2) (u:=3) rfl _ _ w.heap.size _ rfl rfl (Bk.new w _ _)) rfl (vF.bad HP.1 ((ai _ _).alloc (ag _) _))
 have hs:s.size<=4096:=by omega
 have hpar:Rq.parse (lst s)=Rq.words (Rq.oper ((Rq.pW (lst s)).headD [])) (Rq.pW (lst s)).tail:=by unfold Rq.parse;rw[ah (by rw[jV];omega)]
 obtain⟨hd,tl,hsp⟩:∃ hd tl,Rq.pW (lst s)=hd::tl:=by
  cases h:Rq.pW (lst s) with
  | nil=>exact absurd h (Rq.Jg _)
  | cons a b=>exact⟨a,b,rfl⟩
 rw[hsp] at hpar;have RH:=jP (show Rq.parse (lst s)=Rq.words (Rq.oper hd) tl from hpar);have hst:=Ya s (by omega);rw[hsp] at hst;have HST:=jP hst;have hlen:tl.length<=4096:=by have:=Rq.Ub (lst s);rw[hsp,jV] at this;simp at this;omega
 have hmem:∀ x∈tl,x.length<=4096:=by
  intro x hx;have:=Rq.Ua (lst s) x (by rw[hsp];exact List.mem_cons_of_mem _ hx);rw[jV] at this;omega
 have XD:=jP hmem;clear hlong hpar hsp hst hmem;go_enter Tryz.func22,Tryz.ntmps22
 go_wp2_with fail
 refine (HST.1 _).mono ?_;rintro e w2 ⟨A2,c2,rfl,ho2,hb2⟩;have hg2:w.heap.size<w2.heap.size:=by have:=hb2.size;simp at this;omega
 have HG:=jP ((Bk.new w 71 #[.int .i64 0,.int .i64 0,.slice none 0 0]).below hb2 (by simp));have hn:(List.map str (hd::tl)).length=tl.length+1:=by simp
 rw[hn] at ho2 ⊢;obtain⟨ga,rfl,hga,apd,hcap,hcell⟩:=abj ho2;obtain⟨A3,c3,htail,hr3,hc3⟩:=OC (Rd.kX ho2) hcap;have HR3:=jP (show Rd w2 w2.heap.size 1 A3 tl.length (strs (tl.map str)) from hr3);have apc:w.heap.size<ga:=by simp at hga;omega
 have HB2:=jP (((ai w.heap.size w).alloc (ag _) (.cells #[.int .i64 0,.int .i64 0,.slice none 0 0] 71)).trans (hb2.mono (by simp)));clear ho2 hb2 hr3 hn hga;go_wp2_with fail
 refine (N_ (str hd) _).mono ?_;rw[oh];rintro e w3 ⟨rfl,hb3⟩;have xN:=jP (HG.1.below hb3 hg2);have HR4:=jP (HR3.1.below hb3);have hsz3:=hb3.size;have HB3:=jP (HB2.1.trans (hb3.mono (by omega)));clear hb3;generalize hop:Rq.oper hd=op at *;have alF:0<=op/\op<=7:=by rw[<-hop];unfold Rq.oper;repeat' split;all_goals omega
 clear hop;have hg3:w.heap.size<w3.heap.size:=by omega
 have z0:w3.cell? ⟨w.heap.size,0,none⟩=some (.int .i64 0):=xN.1.cell 0;have z1:w3.cell? ⟨w.heap.size,1,none⟩=some (.int .i64 0):=xN.1.cell 1;have z2:w3.cell? ⟨w.heap.size,2,none⟩=some (.slice none 0 0):=xN.1.cell 2;have y0:w3.frozen? ⟨w.heap.size,0,none⟩=false:=xN.1.frozen 0;have y1:w3.frozen? ⟨w.heap.size,1,none⟩=false:=xN.1.frozen 1;have y2:w3.frozen? ⟨w.heap.size,2,none⟩=false:=xN.1.frozen 2;by_cases hop0:op=0
 ·subst hop0;have hp:Rq.parse (lst s)=⟨0,0,[],4⟩:=RH.1;have HP:=jP hp;clear hp;go_wp2
  have hz:=zero3 xN.1 HB3.1;exact aS (rf (p:=2) (u:=3) rfl _ _ w.heap.size _ rfl rfl (hz.1.alloc _)) rfl (vF.bad HP.1 (hz.2.alloc (by simp;omega) _))
 ·have alE:(op==0)=false:=by simpa using hop0
  go_upto_if 31 with (refine (EF op _).mono ?_;rintro e w9 ⟨rfl,rfl⟩)
  go_cut [4] (fun vl wx=>∃ (ttl:Int) (L:List (List UInt8)) (A:Option Addr) (n c:Nat),vl=.slice A n c/\n<=c/\L.length=n/\Bk wx w3.heap.size 71 #[.int .i64 op,.int .i64 ttl,.slice none 0 0]/\Bk wx w.heap.size 71 #[.int .i64 0,.int .i64 0,.slice none 0 0] /\
   Rd wx w3.heap.size 1 A n (strs (L.map str))/\Below w.heap.size w wx/\w3.heap.size<wx.heap.size/\Rq.parse (lst s)=Rq.rest op ttl L/\n<=5000/\(∀ x∈L,x.length<=4096))
  case first=>
   have hw:=Oo hop0 tl;have hb0:=xN.1.lt;cases ht:Rq.oP op
   ·rw[ht] at hw;have HW:=jP (RH.1.trans hw);clear hw;go_wp2_with fail
    go_meet
    case rel=>exact⟨0,tl,A3,tl.length,c3,rfl,hc3,rfl,Bk.new _ _ _,xN.1.alloc _,(HR4.1.more hsz3).alloc (ag _) _,HB3.1.alloc (by omega) _,by simp,HW.1,by omega,XD.1⟩
   ·rw[ht,aj rfl] at hw;cases tl with
    | nil=>
     have HP:=jP (show Rq.parse (lst s)=⟨0,0,[],4⟩ from RH.1.trans hw);clear hw;go_wp2
     have hz:=zero3 xN.1 HB3.1;exact aS (rf (p:=2) (u:=3) rfl _ _ w.heap.size _ rfl rfl (hz.1.alloc _)) rfl (vF.bad HP.1 (hz.2.alloc (by simp;omega) _))
    | cons t r=>
     have HW:=jP (RH.1.trans hw);clear hw;have htl:=XD.1 t (eF ..);have hll:(t::r).length=r.length+1:=rfl;rw[hll] at *;obtain⟨b,off,rfl,hbb,hcs⟩:=HR4.1.2 (by simp[strs]);have hc0:w3.cell? ⟨b,off,none⟩=some (.string (str t)):=hcs 0 _ rfl;have hbw:b<w3.heap.size:=by omega
     obtain⟨A5,c5,ani,zD,hc5⟩:=OC HR4.1 hc3;have v_:=jP (show Rd w3 w2.heap.size 1 A5 r.length (strs (r.map str)) from zD);clear hcs zD hll;go_wp2_with fail
     refine (TF (str t) (by rw[lT];omega) _).mono ?_;rw[oh];rintro e w5 ⟨rfl,hb5⟩;have ahD:w.heap.size<(w3.alloc (.cells #[.int .i64 op,.int .i64 0,.slice none 0 0] 71)).heap.size:=by simp;omega
     have CE:=jP ((xN.1.alloc (.cells #[.int .i64 op,.int .i64 0,.slice none 0 0] 71)).below hb5 ahD);have RY:=jP ((Bk.new w3 71 #[.int .i64 op,.int .i64 0,.slice none 0 0]).below hb5 (by simp));have nS:=jP ((HB3.1.alloc (by omega) (.cells #[.int .i64 op,.int .i64 0,.slice none 0 0] 71)).trans (hb5.mono (by omega)));have Cf:=jP (((v_.1.more hsz3).alloc (ag _) (.cells #[.int .i64 op,.int .i64 0,.slice none 0 0] 71)).below (hb5.mono (by simp)));have hsz5:w3.heap.size<w5.heap.size:=by have:=hb5.size;simp at this;omega
     clear hb5 ahD z0 z1 z2 y0 y1 y2;cases hdec:Rq.dec t with
     | none=>
      have hw:=HW.1;try simp only at hw
      rw[hdec] at hw;have HP:=jP (show Rq.parse (lst s)=⟨0,0,[],4⟩ from hw);clear hw;unfold QG;have z0:w5.cell? ⟨w.heap.size,0,none⟩=some (.int .i64 0):=CE.1.cell 0;have z1:w5.cell? ⟨w.heap.size,1,none⟩=some (.int .i64 0):=CE.1.cell 1;have z2:w5.cell? ⟨w.heap.size,2,none⟩=some (.slice none 0 0):=CE.1.cell 2;have y0:w5.frozen? ⟨w.heap.size,0,none⟩=false:=CE.1.frozen 0;have y1:w5.frozen? ⟨w.heap.size,1,none⟩=false:=CE.1.frozen 1;have y2:w5.frozen? ⟨w.heap.size,2,none⟩=false:=CE.1.frozen 2;go_wp2
      have hz:=zero3 CE.1 nS.1;exact aS (rf (p:=2) (u:=3) rfl _ _ w.heap.size _ rfl rfl hz.1) rfl (vF.bad HP.1 hz.2)
     | some n=>
      have hw:=HW.1;try simp only at hw
      rw[hdec] at hw;have HP:=jP (show Rq.parse (lst s)=Rq.rest op n r from hw);clear hw;unfold QG;have k1:w5.cell? ⟨w3.heap.size,1,none⟩=some (.int .i64 0):=RY.1.cell 1;have f1:w5.frozen? ⟨w3.heap.size,1,none⟩=false:=RY.1.frozen 1;go_wp2_with fail
      refine wp_region_any (by kernel_rfl) ?_;change wpAny _ _ _ _ 6 #[false,false,false,false,false,false] _ (World.drew _);refine bV (i:=0) (v:=.int .i64 n) rfl (by kernel_rfl) (by kernel_rfl) (by kernel_rfl) (fun _ _ _ h=>h) (Or.inl ⟨by rfl,fun w=>?_⟩) ?_
      ·go_simp
      try simp only[Act.put,ax,aF]
      refine bV (i:=1) (v:=.slice (some ⟨b,off,none⟩) (r.length+1) c3) rfl (by kernel_rfl) (by kernel_rfl) (by kernel_rfl) (fun _ _ _ h=>h) (Or.inl ⟨by rfl,fun w=>?_⟩) ?_
      ·go_simp
      try simp only[Act.put,ax,aF,aC]
      refine bV (i:=2) (v:=.slice A5 r.length c5) rfl (by kernel_rfl) (by kernel_rfl) (by kernel_rfl) (fun _ _ _ h=>h) (Or.inl ⟨by rfl,fun w=>?_⟩) ?_
      ·go_simp
      try simp only[Act.put,ax,aF,aC]
      refine bV (i:=3) (v:=.pointer (some ⟨w3.heap.size,1,none⟩)) rfl (by kernel_rfl) (by kernel_rfl) (by kernel_rfl) (fun _ _ _ h=>h) (Or.inl ⟨by rfl,fun w=>?_⟩) ?_
      ·go_simp
      try simp only[Act.put,ax,aF,aC]
      refine dM (rs:=[4]) (by kernel_rfl) (by simp) ?_;refine cO rfl (fun K hK=>?_) dL;go_simp
      refine hK _ _ ?_;clear hK K;try simp only[ax,aF,aC]
      refine dM (rs:=[5]) (by kernel_rfl) (by simp) ?_;refine cO rfl (fun K hK=>?_) dL;go_simp
      refine hK _ _ ?_;clear hK K;try simp only[ax,aF,aC]
      refine wpAny_done (by kernel_rfl) ?_ _;go_step
      go_wp2_with fail
      go_meet
      case rel=>exact⟨n,r,A5,r.length,c5,rfl,hc5,rfl,RY.1.drew.kM 1 (.int .i64 n),CE.1.drew.far (by simp;omega) _,Cf.1.drew.setCell (ag _) _,nS.1.drew.setCell (by simp;omega) _,by simp;omega,HP.1,by simp at hlen;omega,fun x hx=>XD.1 x (List.mem_cons_of_mem _ hx)⟩
  case rest=>
   obtain⟨ttl,L,A,n,c,rfl,hnc,hL,hk5,hg,hr,hb,hgw,hpar,UU,hm⟩:=hcut;have HK:=jP hk5;have HG:=jP hg;have HR:=jP hr;have HB:=jP hb;have HP:=jP hpar;have HL:=jP hL;have HM:=jP hm;have alL:w.heap.size<w3.heap.size:=hg3;clear hk5 hg hr hb hpar hL hm z0 z1 z2 y0 y1 y2 RH XD hlen HST;go_wp2_with fail
   go_loopw [52] (fun vj wr=>∃ (j:Nat) (ns:List (List UInt8)) (A':Option Addr) (c':Nat),j<=n/\vj=.int .i64 j/\ns.length=j/\Bk wr w3.heap.size 71 #[.int .i64 op,.int .i64 ttl,.slice A' j c'] /\
    wr.ownsRow (w3.heap.size+1) 9 1 (.slice A' j c') j (strs (ns.map str))/\Below w3.heap.size wc wr/\Rq.names L=(Rq.names (L.drop j)).map (ns++·)) (fun vj _=>n-(intOf vj).toNat)
   case atStart=>exact⟨0,[],none,0,by omega,rfl,rfl,HK.1,aH _ _ _ _,ai _ _,by rw[List.drop_zero];cases Rq.names L<;>simp⟩
   case round=>
    obtain⟨j,ns,A',c',hj,rfl,hns,hk,ho,hbw,hnm⟩:=hrel;have xe:=jP hk;have HO:=jP ho;have HB2:=jP hbw;have HN:=jP hnm;have HNS:=jP hns;have hsz:=hbw.size;have hgr:w3.heap.size<wr.heap.size:=by omega
    have HG2:=jP (HG.1.below hbw alL);have HR2:=jP (HR.1.below hbw);have oJ:=jP (HB.1.trans (hbw.mono (by omega)));have z0:wr.cell? ⟨w.heap.size,0,none⟩=some (.int .i64 0):=HG2.1.cell 0;have z1:wr.cell? ⟨w.heap.size,1,none⟩=some (.int .i64 0):=HG2.1.cell 1;have z2:wr.cell? ⟨w.heap.size,2,none⟩=some (.slice none 0 0):=HG2.1.cell 2;have y0:wr.frozen? ⟨w.heap.size,0,none⟩=false:=HG2.1.frozen 0;have y1:wr.frozen? ⟨w.heap.size,1,none⟩=false:=HG2.1.frozen 1;have y2:wr.frozen? ⟨w.heap.size,2,none⟩=false:=HG2.1.frozen 2;clear hk ho hbw hnm hns;by_cases hlt:j<n
    ·obtain⟨x,hx⟩:∃ x,L[j]?=some x:=⟨_,au (by have:=HL.1;omega)⟩;have hxm:=HM.1 x (ay hx);obtain⟨b,off,rfl,hbb,hcs⟩:=HR2.1.2 (by rw[pF,bH,HL.1];omega);have hc:wr.cell? ⟨b,off+j,none⟩=some (.string (str x)):=hcs j _ (by rw[xQ,List.getElem?_map,hx];rfl);have hdj:L.drop j=x::L.drop (j+1):=by
      obtain⟨h2,h3⟩:=ak.1 hx;rw[bP h2,h3]
     have HDJ:=jP hdj;clear hcs hdj hx;go_wp2_with fail
     refine (SE (str x) (by rw[lT];omega) _).mono ?_;rw[oh];rintro e w6 ⟨rfl,hb6⟩;have Lm:=hb6.size;have Ic:=jP (HG2.1.below hb6 (by omega));have CB:=jP (xe.1.below hb6 hgr);have lI:=jP (kD HO.1 hb6);have mY:=jP (oJ.1.trans (hb6.mono (by omega)));have VF:=jP (HB2.1.trans (hb6.mono (by omega)));unfold Df;clear z0 z1 z2 y0 y1 y2 hb6;cases hq:(Rq.qA x).2
     ·have hre:=abl (op:=op) (n:=ttl) (show Rq.names L=none by rw[HN.1,HDJ.1,YM _ hq];rfl);have HE:=jP (HP.1.trans hre);have z0:w6.cell? ⟨w.heap.size,0,none⟩=some (.int .i64 0):=Ic.1.cell 0;have z1:w6.cell? ⟨w.heap.size,1,none⟩=some (.int .i64 0):=Ic.1.cell 1;have z2:w6.cell? ⟨w.heap.size,2,none⟩=some (.slice none 0 0):=Ic.1.cell 2;have y0:w6.frozen? ⟨w.heap.size,0,none⟩=false:=Ic.1.frozen 0;have y1:w6.frozen? ⟨w.heap.size,1,none⟩=false:=Ic.1.frozen 1;have y2:w6.frozen? ⟨w.heap.size,2,none⟩=false:=Ic.1.frozen 2;clear hre hq;go_wp2
      have hz:=zero3 Ic.1 mY.1;exact aS (rf (p:=2) (u:=3) rfl _ _ w.heap.size _ rfl rfl hz.1) rfl (vF.bad HE.1 hz.2)
     ·have hn2:Rq.names L=(Rq.names (L.drop (j+1))).map ((ns++[(Rq.qA x).1])++·):=by rw[HN.1,HDJ.1,JC _ hq,abM]
      have ry:=jP hn2;have k2:w6.cell? ⟨w3.heap.size,2,none⟩=some (.slice A' j c'):=CB.1.cell 2;clear hn2 hq;generalize (Rq.qA x).1=y at *;go_wp2_with (at_builtin;refine Dq (by rfl) _ _ rfl (base:=w3.heap.size+1) rfl (lI.1.alloc _) rfl (qi w6 (str y)) (by omega) (by simp<;>omega) ?_)
      intro A8 c8 w8 oZ nN hc8;have qM:=jP (own_below (lH lI.1 (jJ _)) VF.1 _ nN (by omega));have hwl:(ns++[y]).map str=ns.map str++[str y]:=by simp
      have Dz:=jP (show w8.ownsRow (w3.heap.size+1) 9 1 (.slice A8 (j+1) c8) (j+1) (strs ((ns++[y]).map str)) by rw[hwl];exact oZ);have HK8:=jP ((CB.1.alloc _).grown nN (by intro e;have:=(lI.1.lt _ e.symm).1;omega));have k28:w8.cell? ⟨w3.heap.size,2,none⟩=some (.slice A' j c'):=HK8.1.cell 2;have f28:w8.frozen? ⟨w3.heap.size,2,none⟩=false:=HK8.1.frozen 2;clear oZ nN hc8 hwl;go_wp2
      go_roundw
      case rel=>exact⟨j+1,ns++[y],A8,c8,by omega,by go_num,by simp;exact HNS.1,HK8.1.kM 2 _,aQ Dz.1 (by simp) _,qM.1.setCell (ag _) _,ry.1⟩
      case measure=>simp[intOf];omega
    ·have k0:wr.cell? ⟨w3.heap.size,0,none⟩=some (.int .i64 op):=xe.1.cell 0;have k1:wr.cell? ⟨w3.heap.size,1,none⟩=some (.int .i64 ttl):=xe.1.cell 1;have k2:wr.cell? ⟨w3.heap.size,2,none⟩=some (.slice A' j c'):=xe.1.cell 2;have hd:L.drop j=[]:=eU (by have:=HL.1;omega);have hnm:Rq.names L=some ns:=by rw[HN.1,hd];simp[Rq.names]
     have hrest:=MG (op:=op) (n:=ttl) hnm;have HRE:=jP (HP.1.trans hrest);have hnl:=HNS.1;clear hd hnm hrest;by_cases h7:op=7/\ns.length≠1
     ·have hre:=HRE.1;rw[aj h7] at hre;have HE:=jP hre;obtain⟨h7a,h7b⟩:=h7;have hj1:((j:Int) != 1)=true:=by rw[fK];omega
      subst h7a;clear hre;go_wp2
      have hz:=zero3 HG2.1 oJ.1;exact aS (rf (p:=2) (u:=3) rfl _ _ w.heap.size _ rfl rfl hz.1) rfl (vF.bad HE.1 hz.2)
     ·have hre:=HRE.1;rw[ah h7] at hre;have HE:=jP hre;have hcond:(op=7/\((j:Int) != 1)=false)\/(op==7)=false:=by
       by_cases h:op=7
       ·left;refine⟨h,?_⟩;have:ns.length=1:=by
         by_cases h1:ns.length=1
         ·exact h1
         ·exact absurd ⟨h,h1⟩ h7
        rw[<-hnl,this];rfl
       ·right;simpa using h
      have HT:=jP (TW op ttl);clear hre h7 alE alF hop0;rcases hcond with ⟨rfl,h1⟩ | h1
      all_goals
       go_wp2_with fail
       refine (HT.1 _).mono ?_;rintro e w9 ⟨rfl,rfl⟩;clear h1;cases htt:Rq.ttl _ ttl
       ·have he:=HE.1;rw[htt] at he;have HE2:=jP (show Rq.parse (lst s)=⟨0,0,[],3⟩ from he);clear he htt;go_wp2
        have hz:=zero3 HG2.1 oJ.1;exact aS (rf (p:=2) (u:=3) rfl _ _ w.heap.size _ rfl rfl hz.1) rfl (vF.bad HE2.1 hz.2)
       ·have he:=HE.1;rw[htt,aj rfl] at he;have HE2:=jP he;clear he htt;go_wp2
        have h3:=fun o=>aa_ HG2.1 oJ.1 HO.1 (by omega) HNS.1 o ttl;refine aS (rf (p:=2) (u:=3) rfl _ _ w.heap.size _ rfl rfl (h3 _).1) rfl ?_;rw[HE2.1];exact (h3 _).2
end Go.Proofs.YtkachcflifhgiaaGreatDoor
