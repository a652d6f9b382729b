/-    -/
import Derived.Test.YtkachcflifhgiaaGreatDoorGmSZ
import Derived.Test.YtkachcflifhgiaaGreatDoorGtBZ
import Derived.Deep.CutBlock
set_option linter.unusedVariables false
set_option maxRecDepth 100000
set_option maxHeartbeats 16000000
namespace Go.Proofs.YtkachcflifhgiaaGreatDoor
open Go Go.RowKit Go.Shelf Go.Proofs
def Gm.m0:Gm.Mp:=⟨0,[]⟩
def Gm.G7 (l:List Gm.Mp)(c:Int):Nat:=l.countP (fun m=>!decide (c<=m.f))
theorem Gm.agZ (l:List Gm.Mp)(c:Int):Gm.G7 l c<=l.length:=fM
theorem Gm.ZG:∀ {l:List Gm.Mp},yx l->∀ c,Gm.pX l c=match l[Gm.G7 l c]? with
  | none=>none
  | some m=>if m.f=c then some m.to else none
 | [],_,c=>rfl
 | m::r,h,c=>by
  have h1:=(iF.1 h);by_cases hc:c<=m.f
  ·have h0:Gm.G7 (m::r) c=0:=by
    unfold Gm.G7;rw[List.countP_eq_zero];intro q hq;rcases aN.1 hq with rfl | hq
    ·simpa using hc
    ·have:=h1.1 q hq;simp;omega
   rw[h0];simp only[di];unfold Gm.pX;by_cases he:m.f=c
   ·rw[jw (by simpa using he),aj he];rfl
   ·rw[gz (by simpa using he),ah he];have:r.find? (fun m=>m.f==c)=none:=by
     rw[jq];intro q hq;have:=h1.1 q hq;simp;omega
    rw[this];rfl
  ·have h0:Gm.G7 (m::r) c=Gm.G7 r c+1:=by
    unfold Gm.G7;rw[List.countP_cons_of_pos (by simpa using hc)]
   rw[h0,dh,<-Gm.ZG h1.2 c];unfold Gm.pX;rw[gz (by simp;omega)]
theorem Gm.Aw (l:List Gm.Mp)(d:Gm.Mp)(f:Gm.Mp->Bool):(List.range l.length).countP (fun i=>f (l.getD i d))=l.countP f:=by
 have h:l=(List.range l.length).map (fun i=>l.getD i d):=by
  apply List.ext_getElem
  ·simp
  ·intro i h1 h2;simp[h1]
 conv=>rhs;rw[h,List.countP_map]
 rfl
theorem Gm.yt {l:List Gm.Mp}{i:Nat}{s d:Gm.Mp}(h:l[i]?=some s):l.getD i d=s:=by simp[h]
theorem Gm.agV {l:List Gm.Mp}(h:yx l)(c:Int)(a b:Nat)(hab:a<=b)(hb:b<l.length)(hp:decide (c<=(l.getD a Gm.m0).f)=true):decide (c<=(l.getD b Gm.m0).f)=true:=by
 rw[dG] at hp ⊢;rw[Gm.yt (au (by omega:a<l.length))] at hp;rw[Gm.yt (au hb)];by_cases he:a=b
 ·subst he;exact hp
 ·have:=eX.1 h a b (by omega) hb (by omega);omega
theorem JQ (w:World)(u:Value)(t:TypeId)(o:Obj):((w.alloc (.cells #[u] t)).alloc o).cell? ⟨w.heap.size,0,none⟩=some u:=(((Bk.new w t #[u]).alloc o).cell 0).trans rfl
theorem Ho (w:World)(o:Obj)(u:Value)(t:TypeId):((w.alloc o).alloc (.cells #[u] t)).cell? ⟨w.heap.size+1,0,none⟩=some u:=by
 have:=(Bk.new (w.alloc o) t #[u]).cell 0;rw[jI] at this;exact this
theorem XP (bl bc b off n c:Nat)(x t:Int)(i:Nat)(W:World)(hi:i<n)(hn:n<=1000000)(ha:W.cell? ⟨bl,0,none⟩=some (.slice (some ⟨b,off,none⟩) n c))(hx:W.cell? ⟨bc,0,none⟩=some (.int .i64 x))
  (hc:W.cell? ⟨b,off+i*3+1,none⟩=some (.int .i64 t)) :
  Calls Tryz.prog 287 (#[.int .i64 i]++#[.pointer (some ⟨bl,0,none⟩),.pointer (some ⟨bc,0,none⟩)]) W fun e w'=>e=.returned (.bool (decide (x<=t)))/\∃ q,w'=W.drewN q:=by
 have hi1:(i:Int)<(n:Int):=by omega
 go_enter Tryz.func287,Tryz.ntmps287
 go_wp2
 go_quiet (fail)
 go_wp2
 go_ret
 exact⟨rfl,_,rfl⟩
theorem YR (bl bc b off n c:Nat)(x t:Int)(i:Nat)(W:World)(hi:i<n)(hn:n<=1000000)(ha:W.cell? ⟨bl,0,none⟩=some (.slice (some ⟨b,off,none⟩) n c))(hx:W.cell? ⟨bc,0,none⟩=some (.int .i64 x))
  (hc:W.cell? ⟨b,off+i*2,none⟩=some (.int .i64 t)) :
  Calls Tryz.prog 242 (#[.int .i64 i]++#[.pointer (some ⟨bl,0,none⟩),.pointer (some ⟨bc,0,none⟩)]) W fun e w'=>e=.returned (.bool (decide (x<=t)))/\∃ q,w'=W.drewN q:=by
 have hi1:(i:Int)<(n:Int):=by omega
 go_enter Tryz.func242,Tryz.ntmps242
 go_wp2
 go_quiet (fail)
 go_wp2
 go_ret
 exact⟨rfl,_,rfl⟩
theorem Gm.aey {l:List Rg.Sn}(h:Rg.Asc (-1) l)(c:Int)(he:Rg.at_ l c=l.length):Gm.val l c=0:=by
 unfold Gm.val;rw[Rg.Ot h c,he,dJ (ag _)];rfl
theorem Gm.agn {l:List Rg.Sn}(h:Rg.Asc (-1) l)(c:Int){s:Rg.Sn}(he:l[Rg.at_ l c]?=some s):Gm.val l c=if c<s.f then 0 else s.v:=by
 unfold Gm.val;rw[Rg.Ot h c,he];simp only;split<;>rfl
theorem BJ (A:Option Addr)(n c:Nat)(l:List Rg.Sn)(x:Int)(B:Nat)(w:World)(hr:Rd w B 3 A n (spans l))(hBw:B<=w.heap.size)(hl:l.length<=1000000)(ha:Rg.Asc (-1) l) :
  Calls Tryz.prog 247 #[.slice A n c,.int .i64 x] w fun e w'=>e=.returned (.int .i64 (Gm.val l x))/\Below w.heap.size w w':=by
 obtain rfl:l.length=n:=qO hr;have HR:=jP hr;clear hr;have HB0:=jP (show Below w.heap.size w ((w.alloc (.cells #[.slice A l.length c] 23)).alloc (.cells #[.int .i64 x] 3)) from ((ai _ _).alloc (ag _) _).alloc (by simp) _);have HA:=jP ha;clear ha;have c0:=JQ w (.slice A l.length c) 23 (.cells #[.int .i64 x] 3);have c1:=Ho w (.cells #[.slice A l.length c] 23) (.int .i64 x) 3;have hsz1:((w.alloc (.cells #[.slice A l.length c] 23)).alloc (.cells #[.int .i64 x] 3)).heap.size=w.heap.size+2:=by simp
 go_enter Tryz.func247,Tryz.ntmps247
 go_upto_region 1 with (fail)
 generalize hw1:(w.alloc (.cells #[.slice A l.length c] 23)).alloc (.cells #[.int .i64 x] 3)=w1 at *;clear hw1;go_wp2_with fail
 have hse:=Jl 287 #[.pointer (some ⟨w.heap.size,0,none⟩),.pointer (some ⟨w.heap.size+1,0,none⟩)] l.length (fun i=>decide (x<=(l.getD i Rg.d0).t)) w1
  (fA Tryz.func287 (by kernel_rfl) rfl) (by omega)
  (fun W i hi hb=>by
   obtain⟨b,off,s,rfl,hbB,hs,h1,h2,h3⟩:=rX (HR.1.below (HB0.1.mono hBw)) hi;show Calls Tryz.prog _ _ W _;rw[Rg.yt hs];exact XP w.heap.size (w.heap.size+1) b off l.length c x s.t i W hi (by omega) ((hb.cell (p:=⟨w.heap.size,0,none⟩) (by show w.heap.size<w1.heap.size;omega)).trans c0) ((hb.cell (p:=⟨w.heap.size+1,0,none⟩) (by show w.heap.size+1<w1.heap.size;omega)).trans c1)
    ((hb.cell (p:=⟨b,off+i*3+1,none⟩) (by show b<w1.heap.size;omega)).trans h2))
  (fun a b hab hb hp=>Rg.agU HA.1 x a b hab hb hp)
 rw[Rg.Aw l Rg.d0 (fun s=>!decide (x<=s.t))] at hse;refine hse.mono ?_;clear hse;rintro e w2 ⟨rfl,hb2⟩;have d0:=(hb2.cell (p:=⟨w.heap.size,0,none⟩) (by show w.heap.size<w1.heap.size;omega)).trans c0;have d1:=(hb2.cell (p:=⟨w.heap.size+1,0,none⟩) (by show w.heap.size+1<w1.heap.size;omega)).trans c1;have HB2:=jP (HB0.1.trans (hb2.mono (by omega)));clear c0 c1 hb2;rw[show l.countP (fun s=>!decide (x<=s.t))=Rg.at_ l x from rfl];have hle:=Rg.ajT l x;have HFE:=jP (Gm.aey HA.1 x);have BD:=jP (fun s he=>Gm.agn (s:=s) HA.1 x he);generalize hi:Rg.at_ l x=i at *;clear hi;generalize hn:l.length=n at *;by_cases hin:i=n
 ·have HFF:=jP (HFE.1 hin);clear HFE BD hle;subst hin;have be:((i:Int)==(i:Int))=true:=by simp
  go_wp2_with fail
  go_quiet (fail)
  go_wp2
  go_ret
  rw[HFF.1];exact⟨rfl,below_drewN HB2.1 _⟩
 ·have hlt:i<n:=by omega
  obtain⟨b,off,s,rfl,hbB,hs,h1,h2,h3⟩:=rX (HR.1.below (HB2.1.mono hBw)) hlt;have wI:=BD.1 s hs;have be:((i:Int)==(n:Int))=false:=by rw[aX];omega
  have hi0:(0:Int)<=(i:Int):=by omega
  have hi1:(i:Int)<(n:Int):=by omega
  by_cases hc:x<s.f
  ·rw[aj hc] at wI;have HFF:=jP wI;have bd:decide (x<s.f)=true:=by simpa using hc
   clear wI HFE BD hs hin;go_wp2_with fail
   go_quiet (fail)
   go_wp2
   go_ret
   rw[HFF.1];exact⟨rfl,below_drewN HB2.1 _⟩
  ·rw[ah hc] at wI;have HFF:=jP wI;have bd:decide (x<s.f)=false:=by simpa using hc
   clear wI HFE BD hs hin;go_wp2_with fail
   go_quiet (fail)
   go_wp2
   go_ret
   rw[HFF.1];exact⟨rfl,below_drewN HB2.1 _⟩
def I_ (B:Nat)(o:Option (List Int))(w:World)(e:Ending)(w':World):Prop:=
 Below w.heap.size w w'/\match o with
  | none=>e=.returned (.slice none 0 0)
  | some q=>∃ A c,e=.returned (.slice A q.length c)/\Rd w B 1 A q.length (ints q)
theorem uZ (A:Option Addr)(n c:Nat)(l:List Gm.Mp)(x:Int)(B:Nat)(w:World)(hr:qZ w B A n l)(hBw:B<=w.heap.size)(hl:l.length<=1000000)(ha:yx l) :
  Calls Tryz.prog 191 #[.slice A n c,.int .i64 x] w (I_ B (Gm.pX l x) w):=by
 obtain rfl:l.length=n:=hr.1;have HR:=jP hr;clear hr;have HB0:=jP (show Below w.heap.size w ((w.alloc (.cells #[.slice A l.length c] 24)).alloc (.cells #[.int .i64 x] 3)) from ((ai _ _).alloc (ag _) _).alloc (by simp) _);have HA:=jP ha;clear ha;have c0:=JQ w (.slice A l.length c) 24 (.cells #[.int .i64 x] 3);have c1:=Ho w (.cells #[.slice A l.length c] 24) (.int .i64 x) 3;have hsz1:((w.alloc (.cells #[.slice A l.length c] 24)).alloc (.cells #[.int .i64 x] 3)).heap.size=w.heap.size+2:=by simp
 go_enter Tryz.func191,Tryz.ntmps191
 go_upto_region 1 with (fail)
 generalize hw1:(w.alloc (.cells #[.slice A l.length c] 24)).alloc (.cells #[.int .i64 x] 3)=w1 at *;clear hw1;go_wp2_with fail
 have hse:=Jl 242 #[.pointer (some ⟨w.heap.size,0,none⟩),.pointer (some ⟨w.heap.size+1,0,none⟩)] l.length (fun i=>decide (x<=(l.getD i Gm.m0).f)) w1
  (fA Tryz.func242 (by kernel_rfl) rfl) (by omega)
  (fun W i hi hb=>by
   obtain⟨b,off,m,A',c',rfl,hbB,hs,h1,h2,h3⟩:=rU (HR.1.below (HB0.1.mono hBw)) hi;show Calls Tryz.prog _ _ W _;rw[Gm.yt hs];exact YR w.heap.size (w.heap.size+1) b off l.length c x m.f i W hi (by omega) ((hb.cell (p:=⟨w.heap.size,0,none⟩) (by show w.heap.size<w1.heap.size;omega)).trans c0) ((hb.cell (p:=⟨w.heap.size+1,0,none⟩) (by show w.heap.size+1<w1.heap.size;omega)).trans c1)
    ((hb.cell (p:=⟨b,off+i*2,none⟩) (by show b<w1.heap.size;omega)).trans h1))
  (fun a b hab hb hp=>Gm.agV HA.1 x a b hab hb hp)
 rw[Gm.Aw l Gm.m0 (fun s=>!decide (x<=s.f))] at hse;refine hse.mono ?_;clear hse;rintro e w2 ⟨rfl,hb2⟩;have d0:=(hb2.cell (p:=⟨w.heap.size,0,none⟩) (by show w.heap.size<w1.heap.size;omega)).trans c0;have d1:=(hb2.cell (p:=⟨w.heap.size+1,0,none⟩) (by show w.heap.size+1<w1.heap.size;omega)).trans c1;have HB2:=jP (HB0.1.trans (hb2.mono (by omega)));clear c0 c1 hb2;rw[show l.countP (fun s=>!decide (x<=s.f))=Gm.G7 l x from rfl];have hle:=Gm.agZ l x;have hfa:=Gm.ZG HA.1 x;generalize Gm.pX l x=o at *;generalize hi:Gm.G7 l x=i at *;clear hi;have BD:=jP hfa;clear hfa;generalize hn:l.length=n at *;by_cases hin:i=n
 ·have wI:=BD.1;rw[dJ (by omega)] at wI;simp only at wI;subst wI;clear BD hle;subst hin;have be:((i:Int)==(i:Int))=true:=by simp
  go_wp2_with fail
  go_quiet (fail)
  go_wp2
  go_ret
  exact⟨below_drewN HB2.1 _,rfl⟩
 ·have hlt:i<n:=by omega
  obtain⟨b,off,m,A',c',rfl,hbB,hs,h1,h2,h3⟩:=rU (HR.1.below (HB2.1.mono hBw)) hlt;have wI:=BD.1;rw[hs] at wI;simp only at wI;have ny:=jP (show Rd w B 1 A' m.to.length (ints m.to) from by
   obtain⟨b2,off2,m2,A2,c2,e1,e2,e3,e4,e5,e6⟩:=rU HR.1 hlt;rw[hs] at e3;injection e3 with e3
   subst e3;injection e1 with e1
   injection e1 with e1 e7 _
   subst e1;subst e7;have:=((HB2.1.mono hBw).cell (p:=⟨b,off+i*2+1,none⟩) hbB).trans e5;rw[h2] at this;injection this with this
   injection this with this _ _
   rw[this];exact e6)
  have be:((i:Int)==(n:Int))=false:=by rw[aX];omega
  have hi0:(0:Int)<=(i:Int):=by omega
  have hi1:(i:Int)<(n:Int):=by omega
  clear h3 BD hs hin;by_cases hc:m.f=x
  ·rw[aj hc] at wI;subst wI;subst hc;go_wp2_with fail
   go_quiet (fail)
   go_wp2
   go_ret
   exact⟨below_drewN HB2.1 _,A',c',rfl,ny.1⟩
  ·rw[ah hc] at wI;subst wI;have bd:(m.f != x)=true:=by simpa using hc
   go_wp2_with fail
   go_quiet (fail)
   go_wp2
   go_ret
   exact⟨below_drewN HB2.1 _,rfl⟩
def Gm.sc (c:Int):Bool:=decide (0<=c/\c<=1114111/\(c<55296\/57343<c))
theorem Gm.TT (c:Int):Gm.kS c=if Gm.sc c=true then (if c<=127 then 1 else if c<=2047 then 2 else if c<=65535 then 3 else 4) else 0:=by
 unfold Gm.kS Gm.sc;by_cases h:0<=c/\c<=1114111/\(c<55296\/57343<c)
 ·rw[ah (not_not_intro h),aj (bT h)]
 ·rw[aj h,ah (by rw[dG];exact h)]
theorem Jo (c:Int)(w:World):Calls Tryz.prog 125 #[.int .i64 c] w fun e w'=>e=.returned (.bool (Gm.sc c))/\w'=w:=by
 go_enter Tryz.func125,Tryz.ntmps125
 go_wp2
 all_goals
  go_ret
  refine⟨xu ?_,rfl⟩;rw[gu];simp[Gm.sc]<;>omega
theorem Ai (c:Int)(w:World):Calls Tryz.prog 180 #[.int .i64 c] w fun e w'=>e=.returned (.int .i64 (Gm.kS c))/\w'=w:=by
 have hu:=Gm.TT c;have HS:=jP (Jo c);generalize Gm.kS c=u at *;have HU:=jP hu;clear hu;cases hs:Gm.sc c with
 | false=>
  have HW:=jP hs;rw[hs] at HS;clear hs;go_enter Tryz.func180,jf
  go_wp2_with fail
  refine (HS.1 _).mono ?_;rintro e w1 ⟨rfl,rfl⟩;go_wp2
  go_ret
  exact⟨qE (by rw[HU.1,HW.1];rfl),rfl⟩
 | true=>
  have HW:=jP hs;rw[hs] at HS;clear hs;go_enter Tryz.func180,jf
  go_wp2_with fail
  refine (HS.1 _).mono ?_;rintro e w1 ⟨rfl,rfl⟩;go_wp2
  all_goals
   go_ret
   refine⟨qE ?_,rfl⟩;rw[HU.1,HW.1,aj rfl];repeat (first | rw[aj (by assumption)] | rw[aj (by omega)] | rw[ah (by omega)])
theorem aa0 (c:Int)(w:World):Calls Tryz.prog 285 #[.int .i64 c] w fun e w'=>e=.returned (.bool (Gm.Ip c))/\w'=w:=by
 go_enter Tryz.func285,Tryz.ntmps285
 go_wp2
 all_goals
  go_ret
  refine⟨xu ?_,rfl⟩;rw[gu];simp[Gm.Ip]<;>omega
theorem Gs (c:Int)(w:World):Calls Tryz.prog 188 #[.int .i64 c] w fun e w'=>e=.returned (.bool (Hg.mF c))/\w'=w:=by
 go_enter Tryz.func188,Tryz.ntmps188
 go_wp2
 all_goals
  go_ret
  refine⟨xu ?_,rfl⟩;rw[gu];simp[Hg.mF]<;>omega
theorem IJ (c:Int)(w:World):Calls Tryz.prog 189 #[.int .i64 c] w fun e w'=>e=.returned (.bool (Gm.yg c))/\w'=w:=by
 go_enter Tryz.func189,Tryz.ntmps189
 go_wp2
 all_goals
  go_ret
  refine⟨xu ?_,rfl⟩;rw[gu];simp[Gm.yg]<;>omega
theorem OY (c:Int)(w:World):Calls Tryz.prog 240 #[.int .i64 c] w fun e w'=>e=.returned (.bool (Gm.qR c))/\w'=w:=by
 have HA:=jP (aa0 c);have HB:=jP (Gs c);have HC:=jP (IJ c);have hr:Gm.qR c=(decide (0<=c/\c<=127)||Gm.Ip c||Hg.mF c||Gm.yg c):=rfl;generalize Gm.qR c=r at *;generalize Gm.Ip c=s1 at *;generalize Hg.mF c=s2 at *;generalize Gm.yg c=s3 at *;have HR:=jP hr;clear hr;go_enter Tryz.func240,Tryz.ntmps240
 go_wp2_with (first | (go_at_call 285;refine (HA.1 _).mono ?_;rintro e w1 ⟨rfl,rfl⟩) | (go_at_call 188;refine (HB.1 _).mono ?_;rintro e w1 ⟨rfl,rfl⟩) | (go_at_call 189;refine (HC.1 _).mono ?_;rintro e w1 ⟨rfl,rfl⟩))
 all_goals
  go_ret
  refine⟨xu ?_,rfl⟩;rw[HR.1];first
   | (simp_all;done)
   | (rw[gu];simp_all<;>omega)
@[reducible] def Gm.NW.arr (p:Gm.NW):Array Value:=#[.int .i64 p.cat,.int .i64 p.jX,.int .i64 p.scr,.int .i64 p.jU]
theorem nO (p:Gm.NW)(w:World)(tmps:Array Value)(hp:tmps.getD 2 undef=.pointer (some ⟨w.heap.size,0,none⟩))(fn:Func)(h:fn.results=#[.cell 2 246]) :
  (results fn tmps).run Tryz.prog (w.alloc (.cells p.arr 246))=.ok (.agg p.arr) (w.alloc (.cells p.arr 246)):=
 fP (P:=Tryz.prog) (p:=2) (ty:=246) h _ _ w.heap.size _ _ _ _ hp (Bk.new w _ _) Tryz.underlying246 rfl (by kernel_rfl)
theorem afN (c:Int)(h0:97<=c)(h1:c<=122)(w:World):Calls Tryz.prog 246 #[.int .i64 c] w fun e w'=>e=.returned (.agg (Gm.kZ c).arr)/\Below w.heap.size w w':=by
 rw[show Gm.kZ c=⟨1,0,3,1⟩ by unfold Gm.kZ;repeat (first | rw[aj (by omega)] | rw[ah (by omega)])];go_enter eH,dV
 go_wp2_with fail
 exact aS (nO ⟨1,0,3,1⟩ w _ rfl _ rfl) rfl ⟨rfl,(ai _ _).alloc (ag _) _⟩
theorem afM (c:Int)(h0:65<=c)(h1:c<=90)(w:World):Calls Tryz.prog 246 #[.int .i64 c] w fun e w'=>e=.returned (.agg (Gm.kZ c).arr)/\Below w.heap.size w w':=by
 rw[show Gm.kZ c=⟨1,0,3,3⟩ by unfold Gm.kZ;repeat (first | rw[aj (by omega)] | rw[ah (by omega)])];go_enter eH,dV
 go_wp2_with fail
 exact aS (nO ⟨1,0,3,3⟩ w _ rfl _ rfl) rfl ⟨rfl,(ai _ _).alloc (ag _) _⟩
theorem afL (c:Int)(h0:48<=c)(h1:c<=57)(w:World):Calls Tryz.prog 246 #[.int .i64 c] w fun e w'=>e=.returned (.agg (Gm.kZ c).arr)/\Below w.heap.size w w':=by
 rw[show Gm.kZ c=⟨3,4,1,1⟩ by unfold Gm.kZ;repeat (first | rw[aj (by omega)] | rw[ah (by omega)])];go_enter eH,dV
 go_wp2_with fail
 exact aS (nO ⟨3,4,1,1⟩ w _ rfl _ rfl) rfl ⟨rfl,(ai _ _).alloc (ag _) _⟩
theorem afK (w:World):Calls Tryz.prog 246 #[.int .i64 45] w fun e w'=>e=.returned (.agg (Gm.kZ 45).arr)/\Below w.heap.size w w':=by
 rw[show Gm.kZ 45=⟨5,5,1,1⟩ from rfl];go_enter eH,dV
 go_wp2_with fail
 exact aS (nO ⟨5,5,1,1⟩ w _ rfl _ rfl) rfl ⟨rfl,(ai _ _).alloc (ag _) _⟩
theorem afJ (w:World):Calls Tryz.prog 246 #[.int .i64 46] w fun e w'=>e=.returned (.agg (Gm.kZ 46).arr)/\Below w.heap.size w w':=by
 rw[show Gm.kZ 46=⟨5,6,1,1⟩ from rfl];go_enter eH,dV
 go_wp2_with fail
 exact aS (nO ⟨5,6,1,1⟩ w _ rfl _ rfl) rfl ⟨rfl,(ai _ _).alloc (ag _) _⟩
theorem afI (w:World):Calls Tryz.prog 246 #[.int .i64 32] w fun e w'=>e=.returned (.agg (Gm.kZ 32).arr)/\Below w.heap.size w w':=by
 rw[show Gm.kZ 32=⟨7,11,1,0⟩ from rfl];go_enter eH,dV
 go_wp2_with fail
 exact aS (nO ⟨7,11,1,0⟩ w _ rfl _ rfl) rfl ⟨rfl,(ai _ _).alloc (ag _) _⟩
theorem afH (c:Int)(h0:0<=c)(h1:c<=31)(w:World):Calls Tryz.prog 246 #[.int .i64 c] w fun e w'=>e=.returned (.agg (Gm.kZ c).arr)/\Below w.heap.size w w':=by
 have e45:(c==45)=false:=by simp;omega
 have e46:(c==46)=false:=by simp;omega
 have e32:(c==32)=false:=by simp;omega
 have e127:(c==127)=false:=by simp;omega
 rw[show Gm.kZ c=⟨8,11,1,0⟩ by unfold Gm.kZ;repeat (first | rw[aj (by omega)] | rw[ah (by omega)])];go_enter eH,dV
 go_wp2_with fail
 exact aS (nO ⟨8,11,1,0⟩ w _ rfl _ rfl) rfl ⟨rfl,(ai _ _).alloc (ag _) _⟩
theorem afG (w:World):Calls Tryz.prog 246 #[.int .i64 127] w fun e w'=>e=.returned (.agg (Gm.kZ 127).arr)/\Below w.heap.size w w':=by
 rw[show Gm.kZ 127=⟨8,11,1,0⟩ from rfl];go_enter eH,dV
 go_wp2_with fail
 exact aS (nO ⟨8,11,1,0⟩ w _ rfl _ rfl) rfl ⟨rfl,(ai _ _).alloc (ag _) _⟩
theorem afF (c:Int)(h0:33<=c)(h1:c<=44)(w:World):Calls Tryz.prog 246 #[.int .i64 c] w fun e w'=>e=.returned (.agg (Gm.kZ c).arr)/\Below w.heap.size w w':=by
 have e45:(c==45)=false:=by simp;omega
 have e46:(c==46)=false:=by simp;omega
 have e32:(c==32)=false:=by simp;omega
 have e127:(c==127)=false:=by simp;omega
 rw[show Gm.kZ c=⟨5,8,1,0⟩ by unfold Gm.kZ;repeat (first | rw[aj (by omega)] | rw[ah (by omega)])];go_enter eH,dV
 go_wp2_with fail
 exact aS (nO ⟨5,8,1,0⟩ w _ rfl _ rfl) rfl ⟨rfl,(ai _ _).alloc (ag _) _⟩
theorem afE (w:World):Calls Tryz.prog 246 #[.int .i64 47] w fun e w'=>e=.returned (.agg (Gm.kZ 47).arr)/\Below w.heap.size w w':=by
 rw[show Gm.kZ 47=⟨5,8,1,0⟩ from rfl];go_enter eH,dV
 go_wp2_with fail
 exact aS (nO ⟨5,8,1,0⟩ w _ rfl _ rfl) rfl ⟨rfl,(ai _ _).alloc (ag _) _⟩
theorem acH (c:Int)(h0:58<=c)(h1:c<=64)(w:World):Calls Tryz.prog 246 #[.int .i64 c] w fun e w'=>e=.returned (.agg (Gm.kZ c).arr)/\Below w.heap.size w w':=by
 have e45:(c==45)=false:=by simp;omega
 have e46:(c==46)=false:=by simp;omega
 have e32:(c==32)=false:=by simp;omega
 have e127:(c==127)=false:=by simp;omega
 rw[show Gm.kZ c=⟨5,8,1,0⟩ by unfold Gm.kZ;repeat (first | rw[aj (by omega)] | rw[ah (by omega)])];go_enter eH,dV
 go_wp2_with fail
 exact aS (nO ⟨5,8,1,0⟩ w _ rfl _ rfl) rfl ⟨rfl,(ai _ _).alloc (ag _) _⟩
theorem acG (c:Int)(h0:91<=c)(h1:c<=96)(w:World):Calls Tryz.prog 246 #[.int .i64 c] w fun e w'=>e=.returned (.agg (Gm.kZ c).arr)/\Below w.heap.size w w':=by
 have e45:(c==45)=false:=by simp;omega
 have e46:(c==46)=false:=by simp;omega
 have e32:(c==32)=false:=by simp;omega
 have e127:(c==127)=false:=by simp;omega
 rw[show Gm.kZ c=⟨5,8,1,0⟩ by unfold Gm.kZ;repeat (first | rw[aj (by omega)] | rw[ah (by omega)])];go_enter eH,dV
 go_wp2_with fail
 exact aS (nO ⟨5,8,1,0⟩ w _ rfl _ rfl) rfl ⟨rfl,(ai _ _).alloc (ag _) _⟩
theorem acF (c:Int)(h0:123<=c)(h1:c<=126)(w:World):Calls Tryz.prog 246 #[.int .i64 c] w fun e w'=>e=.returned (.agg (Gm.kZ c).arr)/\Below w.heap.size w w':=by
 have e45:(c==45)=false:=by simp;omega
 have e46:(c==46)=false:=by simp;omega
 have e32:(c==32)=false:=by simp;omega
 have e127:(c==127)=false:=by simp;omega
 rw[show Gm.kZ c=⟨5,8,1,0⟩ by unfold Gm.kZ;repeat (first | rw[aj (by omega)] | rw[ah (by omega)])];go_enter eH,dV
 go_wp2_with fail
 exact aS (nO ⟨5,8,1,0⟩ w _ rfl _ rfl) rfl ⟨rfl,(ai _ _).alloc (ag _) _⟩
theorem acE (c:Int)(h0:128<=c)(w:World):Calls Tryz.prog 246 #[.int .i64 c] w fun e w'=>e=.returned (.agg (Gm.kZ c).arr)/\Below w.heap.size w w':=by
 have HB:=jP (Gs c);have HC:=jP (IJ c);have hr:Gm.kZ c=if Hg.mF c=true then ⟨1,0,9,1⟩ else if Gm.yg c=true then ⟨1,0,9,0⟩ else ⟨0,0,0,0⟩:=by
  unfold Gm.kZ;rw[ah (by omega),ah (by omega),ah (by omega),ah (by omega),ah (by omega),ah (by omega),ah (by omega),ah (by omega)]
 generalize Gm.kZ c=r at *;generalize Hg.mF c=s2 at *;generalize Gm.yg c=s3 at *;have HR:=jP hr;clear hr;have e45:(c==45)=false:=by simp;omega
 have e46:(c==46)=false:=by simp;omega
 have e32:(c==32)=false:=by simp;omega
 have e127:(c==127)=false:=by simp;omega
 cases s2
 ·cases s3
  all_goals
   go_enter eH,dV
   go_wp2_with fail
   refine (HB.1 _).mono ?_;rintro e w1 ⟨rfl,rfl⟩;go_wp2_with fail
   refine (HC.1 _).mono ?_;rintro e w2 ⟨rfl,rfl⟩;go_wp2_with fail
   first
    | exact aS (nO ⟨0,0,0,0⟩ _ _ rfl _ rfl) rfl ⟨by rw[HR.1];rfl,(ai _ _).alloc (ag _) _⟩
    | exact aS (nO ⟨1,0,9,0⟩ _ _ rfl _ rfl) rfl ⟨by rw[HR.1];rfl,(ai _ _).alloc (ag _) _⟩
 ·go_enter eH,dV
  go_wp2_with fail
  refine (HB.1 _).mono ?_;rintro e w1 ⟨rfl,rfl⟩;go_wp2_with fail
  exact aS (nO ⟨1,0,9,1⟩ _ _ rfl _ rfl) rfl ⟨by rw[HR.1];rfl,(ai _ _).alloc (ag _) _⟩
theorem ZH (c:Int)(h0:0<=c)(w:World):Calls Tryz.prog 246 #[.int .i64 c] w fun e w'=>e=.returned (.agg (Gm.kZ c).arr)/\Below w.heap.size w w':=by
 by_cases hh:128<=c
 ·exact acE c hh w
 by_cases g0:97<=c/\c<=122
 ·exact afN c g0.1 g0.2 w
 by_cases g1:65<=c/\c<=90
 ·exact afM c g1.1 g1.2 w
 by_cases g2:48<=c/\c<=57
 ·exact afL c g2.1 g2.2 w
 by_cases g3:c=45
 ·subst g3;exact afK w
 by_cases g4:c=46
 ·subst g4;exact afJ w
 by_cases g5:c=32
 ·subst g5;exact afI w
 by_cases g6:0<=c/\c<=31
 ·exact afH c g6.1 g6.2 w
 by_cases g7:c=127
 ·subst g7;exact afG w
 by_cases g8:33<=c/\c<=44
 ·exact afF c g8.1 g8.2 w
 by_cases g9:c=47
 ·subst g9;exact afE w
 by_cases g10:58<=c/\c<=64
 ·exact acH c g10.1 g10.2 w
 by_cases g11:91<=c/\c<=96
 ·exact acG c g11.1 g11.2 w
 by_cases g12:123<=c/\c<=126
 ·exact acF c g12.1 g12.2 w
 omega
theorem afa (p:Gm.NW)(w:World):Calls Tryz.prog 253 #[.agg p.arr] w fun e w'=>e=.returned (.int .i64 p.cat)/\Below w.heap.size w w':=by
 have hc:=(Bk.new w 246 p.arr).cell 0;go_enter Tryz.func253,Tryz.ntmps253
 go_wp2_with fail
 go_ret
 exact⟨rfl,(ai _ _).alloc (ag _) _⟩
theorem afc (p:Gm.NW)(w:World):Calls Tryz.prog 256 #[.agg p.arr] w fun e w'=>e=.returned (.int .i64 p.jX)/\Below w.heap.size w w':=by
 have hc:=(Bk.new w 246 p.arr).cell 1;go_enter Tryz.func256,Tryz.ntmps256
 go_wp2_with fail
 go_ret
 exact⟨rfl,(ai _ _).alloc (ag _) _⟩
theorem ae_ (p:Gm.NW)(w:World):Calls Tryz.prog 316 #[.agg p.arr] w fun e w'=>e=.returned (.int .i64 p.scr)/\Below w.heap.size w w':=by
 have hc:=(Bk.new w 246 p.arr).cell 2;go_enter Tryz.func316,Tryz.ntmps316
 go_wp2_with fail
 go_ret
 exact⟨rfl,(ai _ _).alloc (ag _) _⟩
theorem ae9 (p:Gm.NW)(w:World):Calls Tryz.prog 196 #[.agg p.arr] w fun e w'=>e=.returned (.int .i64 p.jU)/\Below w.heap.size w w':=by
 have hc:=(Bk.new w 246 p.arr).cell 3;go_enter Tryz.func196,Tryz.ntmps196
 go_wp2_with fail
 go_ret
 exact⟨rfl,(ai _ _).alloc (ag _) _⟩
theorem Gm.aeU {c:Int}(h:Gm.qR c=true):0<=c:=by
 simp[Gm.qR,Gm.Ip,Gm.yg,Hg.mF] at h;omega
theorem BK (f:FuncId)(v c:Int)(A:Option Addr)(n cp:Nat)(l:List Rg.Sn)(B:Nat)(w:World)(hr:Rd w B 3 A n (spans l))(hBw:B<=w.heap.size)(hl:l.length<=1000000)(ha:Rg.Asc (-1) l)
  (he:∀ args w,(callFunc f args).run Tryz.prog w=.ok (.enter f args) w) (hf:∀ w:World,Calls Tryz.prog f #[.agg (Gm.kZ c).arr] w fun e w'=>e=.returned (.int .i64 v)/\Below w.heap.size w w') :
  Calls Tryz.prog 195 #[.slice A n cp,.int .i64 c,.func (.func f) #[] #[]] w fun e w'=>e=.returned (.int .i64 (Gm.pick l c v))/\Below w.heap.size w w':=by
 have HF:=jP hf;have HV:=jP (BJ A n cp l c B w hr hBw hl ha);have HFX:=jP (ZH c);have HU:=jP (Ai c);have HR:=jP (OY c);have HRG:=jP (@Gm.aeU c);have hp:Gm.pick l c v=if Gm.kS c=0 then 0 else if Gm.qR c=true then v else Gm.val l c:=rfl
 generalize Gm.pick l c v=r at *;generalize Gm.val l c=vl at *;generalize Gm.qR c=rs at *;generalize Gm.kS c=u at *;generalize (Gm.kZ c).arr=fx at *;have HP:=jP hp;clear hf hr ha hp;by_cases hu:u=0
 ·subst hu;go_enter Tryz.func195,Tryz.ntmps195
  go_wp2_with fail
  refine (HU.1 _).mono ?_;rintro e w1 ⟨rfl,rfl⟩;go_wp2_with fail
  go_ret
  exact⟨qE (by rw[HP.1];rfl),ai _ _⟩
 ·have hub:(u==0)=false:=by simpa using hu
  have HN:=jP hu;clear hu;cases rs with
  | true=>
   have h0c:0<=c:=HRG.1 rfl;go_enter Tryz.func195,Tryz.ntmps195
   go_wp2_with fail
   refine (HU.1 _).mono ?_;rintro e w1 ⟨rfl,rfl⟩;go_wp2_with fail
   refine (HR.1 _).mono ?_;rintro e w1 ⟨rfl,rfl⟩;go_wp2_with fail
   refine (HFX.1 h0c _).mono ?_;rintro e w1 ⟨rfl,hb⟩;go_wp2_with fail
   refine (HF.1 _).mono ?_;rintro e w2 ⟨rfl,hb2⟩;go_wp2_with fail
   go_ret
   exact⟨qE (by rw[HP.1,ah HN.1];rfl),J7 hb hb2⟩
  | false=>
   go_enter Tryz.func195,Tryz.ntmps195
   go_wp2_with fail
   refine (HU.1 _).mono ?_;rintro e w1 ⟨rfl,rfl⟩;go_wp2_with fail
   refine (HR.1 _).mono ?_;rintro e w1 ⟨rfl,rfl⟩;go_wp2_with fail
   refine HV.1.mono ?_;rintro e w1 ⟨rfl,hb⟩;go_wp2_with fail
   go_ret
   exact⟨qE (by rw[HP.1,ah HN.1];rfl),hb⟩
section
variable {w:World} {B:Nat} {V:TV} {T:Gm.Tab}
theorem af_ (h:j_ w B V T)(hB:B<=w.heap.size)(c:Int):Calls Tryz.prog 206 #[kF V,.int .i64 c] w fun e w'=>e=.returned (.int .i64 (Gm.cat T c))/\Below w.heap.size w w':=by
 have F0:=jP (Fr.start h hB);clear h hB;go_enter Tryz.func206,Tryz.ntmps206
 obtain⟨x0,x1,x2,x3,x4,x5,x6,x7,x8,x9,x10,x11⟩:=F0.1.cells;go_wp2_with fail
 clear x0 x1 x2 x3 x4 x5 x6 x7 x8 x9 x10 x11;refine (BK _ (Gm.kZ c).cat c _ _ _ T.cat B _ F0.1.tb.cat F0.1.hx (by have:=F0.1.tb.good.cat.len;omega) F0.1.tb.good.cat.mQ (fA Tryz.func253 (by kernel_rfl) rfl) (afa (Gm.kZ c))).mono ?_;rintro e w1 ⟨rfl,hb⟩;have F1:=jP (F0.1.step hb);clear hb;go_wp2_with fail
 go_ret
 exact⟨rfl,F1.1.bl⟩
theorem Vh (h:j_ w B V T)(hB:B<=w.heap.size)(c:Int):Calls Tryz.prog 212 #[kF V,.int .i64 c] w fun e w'=>e=.returned (.int .i64 (Gm.jX T c))/\Below w.heap.size w w':=by
 have F0:=jP (Fr.start h hB);clear h hB;go_enter Tryz.func212,Tryz.ntmps212
 obtain⟨x0,x1,x2,x3,x4,x5,x6,x7,x8,x9,x10,x11⟩:=F0.1.cells;go_wp2_with fail
 clear x0 x1 x2 x3 x4 x5 x6 x7 x8 x9 x10 x11;refine (BK _ (Gm.kZ c).jX c _ _ _ T.jX B _ F0.1.tb.jX F0.1.hx (by have:=F0.1.tb.good.jX.len;omega) F0.1.tb.good.jX.mQ (fA Tryz.func256 (by kernel_rfl) rfl) (afc (Gm.kZ c))).mono ?_;rintro e w1 ⟨rfl,hb⟩;have F1:=jP (F0.1.step hb);clear hb;go_wp2_with fail
 go_ret
 exact⟨rfl,F1.1.bl⟩
theorem KQ (h:j_ w B V T)(hB:B<=w.heap.size)(c:Int):Calls Tryz.prog 301 #[kF V,.int .i64 c] w fun e w'=>e=.returned (.int .i64 (Gm.scr T c))/\Below w.heap.size w w':=by
 have F0:=jP (Fr.start h hB);clear h hB;go_enter Tryz.func301,Tryz.ntmps301
 obtain⟨x0,x1,x2,x3,x4,x5,x6,x7,x8,x9,x10,x11⟩:=F0.1.cells;go_wp2_with fail
 clear x0 x1 x2 x3 x4 x5 x6 x7 x8 x9 x10 x11;refine (BK _ (Gm.kZ c).scr c _ _ _ T.scr B _ F0.1.tb.scr F0.1.hx (by have:=F0.1.tb.good.scr.len;omega) F0.1.tb.good.scr.mQ (fA Tryz.func316 (by kernel_rfl) rfl) (ae_ (Gm.kZ c))).mono ?_;rintro e w1 ⟨rfl,hb⟩;have F1:=jP (F0.1.step hb);clear hb;go_wp2_with fail
 go_ret
 exact⟨rfl,F1.1.bl⟩
theorem Gt (h:j_ w B V T)(hB:B<=w.heap.size)(c:Int):Calls Tryz.prog 137 #[kF V,.int .i64 c] w fun e w'=>e=.returned (.int .i64 (Gm.jU T c))/\Below w.heap.size w w':=by
 have F0:=jP (Fr.start h hB);clear h hB;go_enter Tryz.func137,Tryz.ntmps137
 obtain⟨x0,x1,x2,x3,x4,x5,x6,x7,x8,x9,x10,x11⟩:=F0.1.cells;go_wp2_with fail
 clear x0 x1 x2 x3 x4 x5 x6 x7 x8 x9 x10 x11;refine (BK _ (Gm.kZ c).jU c _ _ _ T.jU B _ F0.1.tb.jU F0.1.hx (by have:=F0.1.tb.good.jU.len;omega) F0.1.tb.good.jU.mQ (fA Tryz.func196 (by kernel_rfl) rfl) (ae9 (Gm.kZ c))).mono ?_;rintro e w1 ⟨rfl,hb⟩;have F1:=jP (F0.1.step hb);clear hb;go_wp2_with fail
 go_ret
 exact⟨rfl,F1.1.bl⟩
theorem LJ (h:j_ w B V T)(hB:B<=w.heap.size)(c:Int):Calls Tryz.prog 200 #[kF V,.int .i64 c] w fun e w'=>e=.returned (.int .i64 (Gm.cls T c))/\Below w.heap.size w w':=by
 have F0:=jP (Fr.start h hB);clear h hB;go_enter Tryz.func200,Tryz.ntmps200
 obtain⟨x0,x1,x2,x3,x4,x5,x6,x7,x8,x9,x10,x11⟩:=F0.1.cells;go_wp2_with fail
 clear x0 x1 x2 x3 x4 x5 x6 x7 x8 x9 x10 x11;refine (BJ _ _ _ T.cls c B _ F0.1.tb.cls F0.1.hx (by have:=F0.1.tb.good.cls.len;omega) F0.1.tb.good.cls.mQ).mono ?_;rintro e w1 ⟨rfl,hb⟩;have F1:=jP (F0.1.step hb);clear hb;go_wp2_with fail
 go_ret
 exact⟨rfl,F1.1.bl⟩
theorem afr (h:j_ w B V T)(hB:B<=w.heap.size)(c:Int):Calls Tryz.prog 315 #[kF V,.int .i64 c] w fun e w'=>e=.returned (.int .i64 (Gm.ku T c))/\Below w.heap.size w w':=by
 have F0:=jP (Fr.start h hB);clear h hB;go_enter Tryz.func315,Tryz.ntmps315
 obtain⟨x0,x1,x2,x3,x4,x5,x6,x7,x8,x9,x10,x11⟩:=F0.1.cells;go_wp2_with fail
 clear x0 x1 x2 x3 x4 x5 x6 x7 x8 x9 x10 x11;refine (BJ _ _ _ T.ku c B _ F0.1.tb.ku F0.1.hx (by have:=F0.1.tb.good.ku.len;omega) F0.1.tb.good.ku.mQ).mono ?_;rintro e w1 ⟨rfl,hb⟩;have F1:=jP (F0.1.step hb);clear hb;go_wp2_with fail
 go_ret
 exact⟨rfl,F1.1.bl⟩
theorem UQ (h:j_ w B V T)(hB:B<=w.heap.size)(c:Int):Calls Tryz.prog 217 #[kF V,.int .i64 c] w fun e w'=>e=.returned (.bool (Gm.jW T c))/\Below w.heap.size w w':=by
 have F0:=jP (Fr.start h hB);clear h hB;go_enter Tryz.func217,Tryz.ntmps217
 obtain⟨x0,x1,x2,x3,x4,x5,x6,x7,x8,x9,x10,x11⟩:=F0.1.cells;go_wp2_with fail
 clear x0 x1 x2 x3 x4 x5 x6 x7 x8 x9 x10 x11;refine (BJ _ _ _ T.jW c B _ F0.1.tb.jW F0.1.hx (by have:=F0.1.tb.good.jW.len;omega) F0.1.tb.good.jW.mQ).mono ?_;rintro e w1 ⟨rfl,hb⟩;have F1:=jP (F0.1.step hb);clear hb;go_wp2_with fail
 go_ret
 exact⟨rfl,F1.1.bl⟩
end
def agA:Go.Shelf.Ren:=⟨fun | 14=>286 | 16=>241 | 22=>313 | n=>n,
 fun | 0=>0 | 3=>3 | 4=>4 | 28=>22 | 35=>118 | 38=>117 | n=>n,fun | n=>n⟩
theorem Uf:SlLaysO.n14 Tryz.prog agA:={
 mixed:=by kernel_rfl
 f14:=Tryz.func286.trans (aV some (by kernel_rfl))
 f16:=Tryz.func241.trans (aV some (by kernel_rfl))
 f22:=Tryz.func313.trans (aV some (by kernel_rfl))
 t0:=jb
 a0:=Tryz.isAgg0
 z0:=Tryz.sizeOf0
 v0:=jl
 t3:=bM
 a3:=Tryz.isAgg3
 z3:=Tryz.sizeOf3
 v3:=gX
 t4:=eP
 a4:=Tryz.isAgg4
 z4:=Tryz.sizeOf4
 v4:=iH
 t28:=bC
 a28:=Tryz.isAgg22
 z28:=Tryz.sizeOf22
 v28:=Tryz.zeroValue22
 t35:=Tryz.underlying118
 a35:=Tryz.isAgg118
 z35:=Tryz.sizeOf118
 v35:=Tryz.zeroValue118
 t38:=Tryz.underlying117
 a38:=Tryz.isAgg117
 z38:=Tryz.sizeOf117
 v38:=Tryz.zeroValue117 }
theorem Gm.ab3 {l:List Int}(h:l.Pairwise (·<·))(x:Int):∀ a b,a<=b->b<l.toArray.size->decide (x<=l.toArray[a]!)=true->decide (x<=l.toArray[b]!)=true:=by
 intro a b hab hb hp;have hb':b<l.length:=by simpa using hb
 rw[dG] at hp ⊢;have e1:l.toArray[a]! = l[a]:=by simp[show a<l.length by omega]
 have e2:l.toArray[b]! = l[b]:=by simp[hb']
 rw[e1] at hp;rw[e2];by_cases e:a=b
 ·subst e;exact hp
 ·have:=eX.1 h a b (by omega) hb' (by omega);omega
def Gm.E5 (l:List Int)(c:Int):Nat:=l.countP (fun y=>!decide (c<=y))
theorem Gm.ag5 (l:List Int)(c:Int):Gm.E5 l c<=l.length:=fM
theorem Gm.Zx:∀ {l:List Int},l.Pairwise (·<·)->∀ c,l.contains c=match l[Gm.E5 l c]? with
  | none=>false
  | some m=>decide (m=c)
 | [],_,c=>rfl
 | m::r,h,c=>by
  have h1:=(iF.1 h);by_cases hc:c<=m
  ·have h0:Gm.E5 (m::r) c=0:=by
    unfold Gm.E5;rw[List.countP_eq_zero];intro q hq;rcases aN.1 hq with rfl | hq
    ·simpa using hc
    ·have:=h1.1 q hq;simp;omega
   rw[h0];simp only[di];by_cases he:m=c
   ·subst he;simp
   ·have:r.contains c=false:=by
     rw[List.contains_eq_mem,bW];intro hm;have:=h1.1 c hm;omega
    rw[List.contains_cons,this,show (c==m)=false from by simp;exact fun h=>he h.symm,bD he];rfl
  ·have h0:Gm.E5 (m::r) c=Gm.E5 r c+1:=by
    unfold Gm.E5;rw[List.countP_cons_of_pos (by simpa using hc)]
   rw[h0,dh,<-Gm.Zx h1.2 c,List.contains_cons];have:(c==m)=false:=by simp;omega
   rw[this];rfl
theorem Yi (A:Option Addr)(n c:Nat)(l:List Int)(x:Int)(B:Nat)(w:World)(hr:Rd w B 1 A n (ints l))(hBw:B<=w.heap.size)(hl:l.length<=1000000)(ha:l.Pairwise (·<·)) :
  Calls Tryz.prog 286 #[.slice A n c,.int .i64 x] w fun e w'=>e=.returned (.int .i64 (Gm.E5 l x:Nat))/\Below w.heap.size w w':=by
 obtain rfl:l.length=n:=lY hr;by_cases h0:0<l.length
 ·obtain⟨b,off,e,hb,hc⟩:=hr.2 (by rw[kH];exact h0);subst e;exact Any.sort_SearchInts Uf b off c l.toArray x w (fun i hi=>by
   have hi':i<l.length:=by simpa using hi
   have:=hc i (.int .i64 l[i]) (by rw[ints_at,au hi'];rfl);rw[this];simp[hi']) (by omega) (by simp;omega) (Gm.ab3 ha x)
 ·have hz:l=[]:=bu (by omega);subst hz;exact Any.sort_SearchInts_none Uf A c x w
section
variable {w:World} {B:Nat} {V:TV} {T:Gm.Tab}
theorem afQ (h:j_ w B V T)(hB:B<=w.heap.size)(c:Int):Calls Tryz.prog 243 #[kF V,.int .i64 c] w fun e w'=>e=.returned (.bool (Gm.exc T c))/\Below w.heap.size w w':=by
 have F0:=jP (Fr.start h hB);clear h hB;go_enter Tryz.func243,Tryz.ntmps243
 obtain⟨x0,x1,x2,x3,x4,x5,x6,x7,x8,x9,x10,x11⟩:=F0.1.cells;go_wp2_with fail
 clear x0 x1 x2 x3 x4 x5 x6 x7 x8 x9 x10 x11;refine (Yi _ _ _ T.exc c B _ F0.1.tb.exc F0.1.hx (by have:=F0.1.tb.good.Lt;omega) F0.1.tb.good.Xj).mono ?_;rintro e w1 ⟨rfl,hb⟩;have F1:=jP (F0.1.step hb);clear hb F0;have x10:w1.cell? ⟨w.heap.size,10,none⟩=some (.slice V.exc.A V.exc.n V.exc.c):=F1.1.bx.cell 10;have hl:=lY F1.1.tb.exc;have hle:=Gm.ag5 T.exc c;have UU:=F1.1.tb.good.Lt;have HH:=jP (show Gm.exc T c=_ from Gm.Zx F1.1.tb.good.Xj c);rw[hl] at hle UU;clear hl;by_cases hlt:Gm.E5 T.exc c<V.exc.n
 ·obtain⟨b,off,y,hA,hbB,hy,hcell⟩:=jZ F1.1.tb.exc hlt;rw[hA] at x10;have HY:=jP (show Gm.exc T c=decide (y=c) by rw[HH.1,hy]);clear HH hy hA;generalize Gm.E5 T.exc c=i at *;have hi1:(i:Int)<(V.exc.n:Int):=by omega
  have hi0:(0:Int)<=(i:Int):=by omega
  by_cases hyc:y=c
  ·subst hyc;go_wp2_with fail
   go_ret
   exact⟨xu (by rw[HY.1];simp),F1.1.bl⟩
  ·have hyb:(y==c)=false:=by simpa using hyc
   have HN:=jP hyc;clear hyc;go_wp2_with fail
   go_ret
   exact⟨xu (by rw[HY.1];simpa using HN.1),F1.1.bl⟩
 ·have HY:=jP (show Gm.exc T c=false by rw[HH.1,dJ (by rw[lY F1.1.tb.exc];omega)]);clear HH;generalize Gm.E5 T.exc c=i at *;have hi1:¬(i:Int)<(V.exc.n:Int):=by omega
  have hib:decide ((i:Int)<(V.exc.n:Int))=false:=by simpa using hi1
  have ao_:decide (i<V.exc.n)=false:=by simpa using hlt
  go_wp2_with fail
  go_ret
  exact⟨xu (by rw[HY.1]),F1.1.bl⟩
theorem xC (A:Option Addr)(n c:Nat)(l:List Int)(B:Nat)(w:World)(hr:Rd w B 1 A n (ints l))(hB:B<=w.heap.size)(hn:n<=1000000) :
  Calls Tryz.prog 197 #[.slice A n c] w (vG 3 l w):=by
 have HL:=jP (lY hr);have HR:=jP hr;clear hr;go_enter Tryz.func197,Tryz.ntmps197
 go_wp2_with (at_builtin;refine kW (by rfl) _ _ rfl (base:=w.heap.size) (xs:=[]) rfl (aH _ _ _ _) rfl HR.1 (by omega) (by simp) ?_)
 intro A1 c1 w1 ho1 hg1 hc1;have hb1:Below w.heap.size w w1:=(ai _ _).grown hg1 (by simp) (fun g h=>by cases h);have HO:=jP ho1;have HB:=jP hb1;clear ho1 hg1 hc1 hb1;go_wp2
 go_ret
 exact⟨A1,c1,by rw[HL.1];simp,by rw[HL.1];simpa using HO.1,HB.1⟩
theorem xB (w:World):Calls Tryz.prog 197 #[.slice none 0 0] w fun e w'=>e=.returned (.slice none 0 0)/\w'=w:=by
 go_enter Tryz.func197,Tryz.ntmps197
 go_wp2_with fail
 go_ret
 exact⟨rfl,rfl⟩
def ajm (o:Option (List Int))(w:World)(e:Ending)(w':World):Prop:=
 Below w.heap.size w w'/\match o with
  | none=>e=.returned (.slice none 0 0)
  | some q=>∃ A c,e=.returned (.slice A q.length c)/\w'.ownsRow w.heap.size 3 1 (.slice A q.length c) q.length (ints q)
theorem af1 (h:j_ w B V T)(hB:B<=w.heap.size)(c:Int)(hto:∀ q,Gm.pX T.dec c=some q->q.length<=1000000):Calls Tryz.prog 289 #[kF V,.int .i64 c] w (ajm (Gm.pX T.dec c) w):=by
 have F0:=jP (Fr.start h hB);clear h hB;have HT:=jP hto;clear hto;go_enter Tryz.func289,Tryz.ntmps289
 obtain⟨x0,x1,x2,x3,x4,x5,x6,x7,x8,x9,x10,x11⟩:=F0.1.cells;go_wp2_with fail
 clear x0 x1 x2 x3 x4 x5 x6 x7 x8 x9 x10 x11;refine (uZ _ _ _ T.dec c B _ F0.1.tb.dec F0.1.hx (by have:=F0.1.tb.good.Fz;omega) F0.1.tb.good.Xr).mono ?_;rintro e w1 ⟨hb,he⟩;have F1:=jP (F0.1.step hb);have HB1:=jP (hb.mono F0.1.hx);clear hb F0;generalize Gm.pX T.dec c=o at *;cases o with
 | none=>
  simp only at he;subst he;go_wp2_with fail
  refine (xB _).mono ?_;rintro e w2 ⟨rfl,rfl⟩;go_wp2
  go_ret
  exact⟨F1.1.bl,rfl⟩
 | some q=>
  obtain⟨A,cc,rfl,hr⟩:=he;have HR:=jP (hr.below HB1.1);clear hr;have Ky:=jP (HT.1 q rfl);go_wp2_with fail
  refine (xC A q.length cc q B _ HR.1 F1.1.hx Ky.1).mono ?_;rintro e w2 ⟨A2,c2,rfl,ho,hb2⟩;have F2:=jP (F1.1.step hb2);have HO:=jP (lH ho (show w.heap.size<=w1.heap.size by have:=F1.1.sz;omega));clear ho hb2;go_wp2
  go_ret
  exact⟨F2.1.bl,A2,c2,rfl,HO.1⟩
theorem ae3 (h:j_ w B V T)(hB:B<=w.heap.size)(c:Int)(hto:∀ q,Gm.pX T.jY c=some q->q.length<=1000000):Calls Tryz.prog 218 #[kF V,.int .i64 c] w (ajm (Gm.pX T.jY c) w):=by
 have F0:=jP (Fr.start h hB);clear h hB;have HT:=jP hto;clear hto;go_enter Tryz.func218,Tryz.ntmps218
 obtain⟨x0,x1,x2,x3,x4,x5,x6,x7,x8,x9,x10,x11⟩:=F0.1.cells;go_wp2_with fail
 clear x0 x1 x2 x3 x4 x5 x6 x7 x8 x9 x10 x11;refine (uZ _ _ _ T.jY c B _ F0.1.tb.jY F0.1.hx (by have:=F0.1.tb.good.Pj;omega) F0.1.tb.good.abr).mono ?_;rintro e w1 ⟨hb,he⟩;have F1:=jP (F0.1.step hb);have HB1:=jP (hb.mono F0.1.hx);clear hb F0;generalize Gm.pX T.jY c=o at *;cases o with
 | none=>
  simp only at he;subst he;go_wp2_with fail
  refine (xB _).mono ?_;rintro e w2 ⟨rfl,rfl⟩;go_wp2
  go_ret
  exact⟨F1.1.bl,rfl⟩
 | some q=>
  obtain⟨A,cc,rfl,hr⟩:=he;have HR:=jP (hr.below HB1.1);clear hr;have Ky:=jP (HT.1 q rfl);go_wp2_with fail
  refine (xC A q.length cc q B _ HR.1 F1.1.hx Ky.1).mono ?_;rintro e w2 ⟨A2,c2,rfl,ho,hb2⟩;have F2:=jP (F1.1.step hb2);have HO:=jP (lH ho (show w.heap.size<=w1.heap.size by have:=F1.1.sz;omega));clear ho hb2;go_wp2
  go_ret
  exact⟨F2.1.bl,A2,c2,rfl,HO.1⟩
end
end Go.Proofs.YtkachcflifhgiaaGreatDoor
