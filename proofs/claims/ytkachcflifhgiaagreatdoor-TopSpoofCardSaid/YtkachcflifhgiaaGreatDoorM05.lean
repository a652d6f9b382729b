/-   -/
import Derived.Test.YtkachcflifhgiaaGreatDoorProg
import Derived.Test.YtkachcflifhgiaaGreatDoorM03
import Derived.Test.YtkachcflifhgiaaGreatDoorM01
import Derived.Deep.QuietTactic
import Derived.BigQuiet
import Derived.Laws.Strings
set_option linter.unusedVariables false
set_option maxRecDepth 100000
set_option maxHeartbeats 16000000
namespace Go.Proofs.YtkachcflifhgiaaGreatDoor
open Go Go.RowKit
def Rg.Sn.cells3 (s:Rg.Sn):List Value:=[.int .i64 s.f,.int .i64 s.t,.int .i64 s.v]
def spans:List Rg.Sn->List Value
 | []=>[]
 | s::r=>s.cells3++spans r
theorem uQ:∀ l:List Rg.Sn,(spans l).length=l.length*3
 | []=>rfl
 | s::r=>by simp[spans,Rg.Sn.cells3,uQ r];omega
theorem Ak:∀ l m:List Rg.Sn,spans (l++m)=spans l++spans m
 | [],m=>rfl
 | s::r,m=>by simp[spans,Ak r m]
theorem Ir:∀ (l:List Rg.Sn) (k:Nat) (s:Rg.Sn),l[k]?=some s->(spans l)[k*3]?=some (.int .i64 s.f)/\(spans l)[k*3+1]?=some (.int .i64 s.t)/\(spans l)[k*3+2]?=some (.int .i64 s.v)
 | [],k,s,h=>by simp at h
 | a::r,0,s,h=>by simp at h;subst h;simp[spans,Rg.Sn.cells3]
 | a::r,k+1,s,h=>by
  have ih:=Ir r k s (by simpa using h);have e:∀ j,(spans (a::r))[(k+1)*3+j]?=(spans r)[k*3+j]?:=by
   intro j;show (a.cells3++spans r)[(k+1)*3+j]?=_;rw[aT (by simp[Rg.Sn.cells3];omega)];congr 1
   simp[Rg.Sn.cells3];omega
  exact⟨(e 0).trans ih.1,(e 1).trans ih.2.1,(e 2).trans ih.2.2⟩
theorem rX {w:World}{B n:Nat}{A:Option Addr}{l:List Rg.Sn}(h:Rd w B 3 A n (spans l)){k:Nat}(hk:k<n) :
  ∃ b off s,A=some ⟨b,off,none⟩/\b<B/\l[k]?=some s/\w.cell? ⟨b,off+k*3,none⟩=some (.int .i64 s.f)/\w.cell? ⟨b,off+k*3+1,none⟩=some (.int .i64 s.t)/\w.cell? ⟨b,off+k*3+2,none⟩=some (.int .i64 s.v):=by
 have hl:l.length=n:=by have:=h.1;rw[uQ] at this;omega
 obtain⟨b,off,hA,hb,hc⟩:=h.2 (by rw[uQ];omega);have hs:l[k]?=some l[k]:=au (by omega);obtain⟨h1,h2,h3⟩:=Ir l k _ hs;refine⟨b,off,l[k],hA,hb,hs,hc _ _ h1,?_,?_⟩
 ·have:=hc _ _ h2;rwa [<-jg] at this
 ·have:=hc _ _ h3;rwa [<-jg] at this
theorem xu {a b:Bool}(h:a=b):Ending.returned (.bool a)=.returned (.bool b):=by rw[h]
theorem Wl (A:Option Addr)(c:Nat)(l:List Rg.Sn)(lo hi:Int)(B:Nat)(w:World)(hr:Rd w B 3 A l.length (spans l))(hBw:B<=w.heap.size)(hl:l.length<=100000000000000000) :
  Calls Tryz.prog 183 #[.slice A l.length c,.int .i64 lo,.int .i64 hi] w fun e w'=>e=.returned (.bool (Rg.check l lo hi))/\Below w.heap.size w w':=by
 have HR:=jP hr;clear hr;generalize hn:l.length=n at *;have HN:=jP hn;clear hn;go_enter Tryz.func183,Tryz.ntmps183
 go_wp2
 go_loopw [7,12] (fun lv i wr=>∃ (k:Nat) (last:Int),k<=n/\i=.int .i64 k/\lv=.int .i64 last/\Rg.chk lo hi (-1) l=Rg.chk lo hi last (l.drop k)/\Below w.heap.size w wr) (fun _ i _=>n-(intOf i).toNat)
 case atStart=>exact⟨0,-1,by omega,rfl,rfl,rfl,ai _ _⟩
 case round=>
  obtain⟨k,last,hk,rfl,rfl,hch,hb⟩:=hrel;have HCH:=jP hch;have HB:=jP hb;clear hch hb;by_cases hlt:k<n
  ·obtain⟨b,off,s,rfl,hbB,hs,h1,h2,h3⟩:=rX (HR.1.below (HB.1.mono hBw)) hlt;have hdr:l.drop k=s::l.drop (k+1):=by
    obtain⟨hk',rfl⟩:=ak.1 hs;exact bP hk'
   have hst:Rg.chk lo hi (-1) l=if s.f<=last\/s.t<s.f\/1114111<s.t\/s.f<lo\/hi<s.t then false else Rg.chk lo hi s.t (l.drop (k+1)):=by rw[HCH.1,hdr];rfl
   have HST:=jP hst;have HB2:=jP (HB.1.alloc HB.1.size (.cells #[.int .i64 s.f,.int .i64 s.t,.int .i64 s.v] 82));clear hst hdr hs HCH;go_wp2
   case roundEnd=>
    go_roundw
    case rel=>
     refine⟨k+1,s.t,by omega,by go_num,rfl,?_,HB2.1⟩;have:=HST.1;rw[ah (by omega)] at this;exact this
    case measure=>simp[intOf];omega
   all_goals
    go_ret
    refine⟨xu ?_,HB2.1⟩;have:=HST.1;rw[aj (by omega)] at this;unfold Rg.check;rw[this];rfl
  ·have hkn:k=n:=by omega
   have hdn:l.drop k=[]:=List.drop_eq_nil_of_le (by have:=HN.1;omega);have hch:Rg.check l lo hi=decide (n<=256):=by
    unfold Rg.check;rw[HCH.1,hdn,HN.1];simp[Rg.chk]
   have BF:=jP hch;clear hch hdn HCH;go_wp2
   go_ret
   rw[BF.1];refine⟨xu ?_,HB.1⟩;by_cases h:n<=256
   ·simp;omega
   ·simp;omega
def aic (b:Bool)(w:World)(e:Ending)(w':World):Prop:=e=.returned (.bool b)/\∃ m,w'=w.drewN m
theorem toList_inj {a b:ByteArray}(h:a.toList=b.toList):a=b:=by
 rw[eY,eY] at h;exact ByteArray.ext (Array.toList_inj.1 h)
theorem EH {w:World}{B n:Nat}{A:Option Addr}{xs:List ByteArray}(h:Rd w B 1 A n (strs xs)){k:Nat}(hk:k<n) :
  ∃ b off c,A=some ⟨b,off,none⟩/\b<B/\xs[k]?=some c/\w.cell? ⟨b,off+k,none⟩=some (.string c):=by
 obtain⟨b,off,u,hA,hb,hu,hc⟩:=h.at_ hk;rw[xQ] at hu;obtain⟨c,hc1,rfl⟩:=gB.1 hu;exact⟨b,off,c,hA,hb,hc1,hc⟩
end Go.Proofs.YtkachcflifhgiaaGreatDoor
