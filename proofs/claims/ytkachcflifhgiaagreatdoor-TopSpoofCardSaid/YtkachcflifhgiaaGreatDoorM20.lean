/-         -/
import Derived.Test.YtkachcflifhgiaaGreatDoorM19
set_option linter.unusedVariables false
set_option maxRecDepth 100000
set_option maxHeartbeats 16000000
namespace Go.Proofs.YtkachcflifhgiaaGreatDoor
open Go Go.RowKit Go.Shelf Go.Proofs
theorem agz {w:World}{V:TV}{T:Gm.Tab}{B g p:Nat}{y:Int}{x:World}(h:So w V T B g p y x)(c:Int):Calls Tryz.prog 206 #[kF V,.int .i64 c] x fun e x'=>e=.returned (.int .i64 (Gm.cat T c))/\Below x.heap.size x x'/\So w V T B g p y x':=
 (af_ h.fr.tb h.fr.hx c).mono fun e x' ⟨he,hb⟩=>⟨he,hb,h.step hb⟩
theorem ab9 (w:World)(B:Nat)(A:Option Addr)(n c:Nat)(l:List Int)(hr:Rd w B 1 A n (ints l))(hn:n<=1000000) :
  Calls Tryz.prog 205 #[.slice A n c] w fun e w'=>e=.returned (.bool (Gm.DZ l))/\w=w':=by
 have HL:=jP (lY hr);have HJ:=jP (show Gm.DZ l=(l.isEmpty||(decide (l.getD 0 0≠45)&&decide (l.getLastD 0≠45)&&(decide (l.length<4)||decide (l.getD 2 0≠45)||decide (l.getD 3 0≠45)))) from rfl);generalize Gm.DZ l=jo at *;by_cases hz:n=0
 ·have HV:=jP (show jo=true by rw[HJ.1,bu (by have:=HL.1;omega:l.length=0)];rfl);have hz2:((n:Int)==0)=true:=by simp[hz]
  clear hz hr;go_enter Tryz.func205,Tryz.ntmps205
  go_wp2_with fail
  go_ret
  exact⟨by rw[HV.1];rfl,rfl⟩
 ·obtain⟨m,rfl⟩:∃ m,n=m+1:=⟨n-1,by omega⟩;obtain⟨b,off,a,rfl,hbB,hat,hca⟩:=jZ hr (show 0<m+1 by omega);obtain⟨b1,o1,z,e1,_,haz,hcz⟩:=jZ hr (show m<m+1 by omega);injection e1 with e1
  injection e1 with e1 e2 _
  subst e1;subst e2;have HK:=jP (show jo=(decide (a≠45)&&decide (z≠45)&&(decide (m+1<4)||decide (l.getD 2 0≠45)||decide (l.getD 3 0≠45))) by
   have e1:l.getLastD 0=z:=by rw[iU,iV,HL.1,Nat.add_sub_cancel,haz];rfl
   have e2:l.isEmpty=false:=by
    cases l with
    | nil=>have:=HL.1;simp at this
    | cons=>rfl
   rw[HJ.1,e1,e2,Gm.getD_at hat,HL.1,Bool.false_or])
  have hz2:((m:Int)+1==0)=false:=by rw[aX];omega
  have hwm:IntKind.i64.wrap (m:Int)=(m:Int):=aW _ (by omega);have hm0:(0:Int)<=(m:Int):=by omega
  have hm1:(m:Int)<(m:Int)+1:=by omega
  have hm2:(0:Int)<(m:Int)+1:=by omega
  have hca:w.cell? ⟨b,off,none⟩=some (.int .i64 a):=hca;clear hz hat haz HJ;by_cases h1:a=45
  ·have HV:=jP (show jo=false by rw[HK.1];simp[h1]);subst h1;clear HK hr;go_enter Tryz.func205,Tryz.ntmps205
   go_wp2_with fail
   go_ret
   exact⟨by rw[HV.1];rfl,rfl⟩
  ·have b1:(a != 45)=true:=by simpa using h1
   by_cases h2:z=45
   ·have HV:=jP (show jo=false by rw[HK.1];simp[h2]);subst h2;clear HK hr h1;go_enter Tryz.func205,Tryz.ntmps205
    go_wp2_with fail
    go_ret
    exact⟨by rw[HV.1];rfl,rfl⟩
   ·have b2:(z != 45)=true:=by simpa using h2
    by_cases h4:m+1<4
    ·have HV:=jP (show jo=true by rw[HK.1];simp[h1,h2,h4]);have Hl:decide ((m:Int)+1<4)=true:=by rw[dG];omega
     clear HK hr h1 h2 h4;go_enter Tryz.func205,Tryz.ntmps205
     go_wp2_with fail
     go_ret
     exact⟨by rw[HV.1];rfl,rfl⟩
    ·have Hl:decide ((m:Int)+1<4)=false:=by rw[bW];omega
     obtain⟨b1,o1,x2,e1,_,ha2,hc2⟩:=jZ hr (show 2<m+1 by omega);injection e1 with e1
     injection e1 with e1 e2 _
     subst e1;subst e2;obtain⟨b1,o1,x3,e1,_,Zy,hc3⟩:=jZ hr (show 3<m+1 by omega);injection e1 with e1
     injection e1 with e1 e2 _
     subst e1;subst e2;have HQ:=jP (show jo=(decide (x2≠45)||decide (x3≠45)) by rw[HK.1,Gm.getD_at ha2,Gm.getD_at Zy];simp[h1,h2,h4]);have Fa:(2:Int)<(m:Int)+1:=by omega
     have hm4:(3:Int)<(m:Int)+1:=by omega
     clear HK hr h1 h2 h4 ha2 Zy;by_cases h5:x2=45
     ·have HV:=jP (show jo=(x3 != 45) by rw[HQ.1,h5];by_cases e:x3=45<;>simp[e]);subst h5;clear HQ;go_enter Tryz.func205,Tryz.ntmps205
      go_wp2_with fail
      go_ret
      exact⟨by rw[HV.1];rfl,rfl⟩
     ·have b5:(x2 != 45)=true:=by simpa using h5
      have HV:=jP (show jo=true by rw[HQ.1];simp[h5]);clear HQ h5;go_enter Tryz.func205,Tryz.ntmps205
      go_wp2_with fail
      go_ret
      exact⟨by rw[HV.1];rfl,rfl⟩
section
variable {w:World} {B:Nat} {V:TV} {T:Gm.Tab}
theorem ED (h:j_ w B V T)(hB:B<=w.heap.size)(A:Option Addr)(n c:Nat)(l:List Int)(hr:Rd w B 1 A n (ints l))(hn:n<=1000000) :
  Calls Tryz.prog 144 #[kF V,.slice A n c] w fun e w'=>e=.returned (.int .i64 (Gm.valid T l))/\Below w.heap.size w w':=by
 have F0:=jP (Fr.start h hB);have HR0:=jP (hr.alloc hB (.cells (kK V) 26));have HL:=jP (lY hr);have HO:=jP (show (Gm.order T l).2=Gm.kE l by unfold Gm.order;split<;>simp_all);have HN:=jP (show Gm.valid T l=if Gm.kE l≠0 then Gm.kE l else if l=[] then 10 else if Gm.zY T l=false then 13 else if Gm.DZ l=false then 14 else if Gm.cat T (l.getD 0 0)=2 then 15 else if l.any (fun c=>decide (c=46)||decide (Gm.jU T c≠1/\Gm.jU T c≠4)) then 16 else if (Gm.oq T l).2≠0 then (Gm.oq T l).2 else (Gm.context T l).2 from rfl);clear h hr;generalize Gm.valid T l=nf at *;obtain⟨x0,x1,x2,x3,x4,x5,x6,x7,x8,x9,x10,x11⟩:=F0.1.cells;go_enter Tryz.func144,Tryz.ntmps144
 go_wp2_with fail
 clear x0 x1 x2 x3 x4 x5 x6 x7 x8 x9 x10 x11;refine (rq F0.1.tb F0.1.hx A n c l HR0.1 hn).mono ?_;rw[HO.1];rintro e w1 ⟨A1,c1,rfl,_,hb1⟩;have F1:=jP (F0.1.step hb1);have HR1:=jP (HR0.1.below (hb1.mono F0.1.hx));clear hb1 F0 HR0 HO;generalize (Gm.order T l).1.length=n1 at *;by_cases h0:Gm.kE l=0
 ·rw[h0];by_cases hz:n=0
  ·have HV:=jP (show nf=10 by rw[HN.1,ah (by simpa using h0),aj (bu (by have:=HL.1;omega))]);have hz2:((n:Int)==0)=true:=by simp[hz]
   clear hz HN h0;go_wp2_with fail
   go_ret
   exact⟨by rw[HV.1];rfl,F1.1.bl⟩
  ·have HV:=jP (show nf=if Gm.zY T l=false then 13 else if Gm.DZ l=false then 14 else if Gm.cat T (l.getD 0 0)=2 then 15 else if l.any (fun c=>decide (c=46)||decide (Gm.jU T c≠1/\Gm.jU T c≠4)) then 16 else if (Gm.oq T l).2≠0 then (Gm.oq T l).2 else (Gm.context T l).2 by
    rw[HN.1,ah (by simpa using h0),ah (by rintro rfl;exact hz (by have:=HL.1;simpa using this.symm))])
   have hz2:((n:Int)==0)=false:=by simp[hz]
   have HC:=jP (Zh F1.1.tb F1.1.hx A n c l HR1.1 hn);have HP:=jP (show 0<n by omega);clear HN h0 hz;generalize Gm.zY T l=isn at *;obtain⟨x0,x1,x2,x3,x4,x5,x6,x7,x8,x9,x10,x11⟩:=F1.1.cells;go_wp2_with fail
   clear x0 x1 x2 x3 x4 x5 x6 x7 x8 x9 x10 x11 hz2;refine HC.1.mono ?_;rintro e w2 ⟨rfl,hb2⟩;have F2:=jP (F1.1.step hb2);have HR2:=jP (HR1.1.below (hb2.mono F1.1.hx));clear hb2 F1 HR1 HC;cases isn with
   | false=>
    have HX:=jP (show nf=13 by rw[HV.1,aj rfl]);clear HV;go_wp2_with fail
    go_ret
    exact⟨by rw[HX.1];rfl,F2.1.bl⟩
   | true=>
    have HC:=jP (ab9 w2 B A n c l HR2.1 hn);generalize Gm.DZ l=hy at *;go_wp2_with fail
    refine HC.1.mono ?_;rintro e w3 ⟨rfl,hw3⟩;subst hw3;clear HC;cases hy with
    | false=>
     have HX:=jP (show nf=14 by rw[HV.1,ah (by decide),aj rfl]);clear HV;go_wp2_with fail
     go_ret
     exact⟨by rw[HX.1];rfl,F2.1.bl⟩
    | true=>
     obtain⟨b,off,a,rfl,hbB,hat,hca⟩:=jZ HR2.1 HP.1;have hs0:So w V T B b off a w2.drew:=So.drew ⟨F2.1,by have:=F2.1.hx;omega,hca⟩;have uk:=jP (show nf=if Gm.cat T a=2 then 15 else if l.any (fun c=>decide (c=46)||decide (Gm.jU T c≠1/\Gm.jU T c≠4)) then 16 else if (Gm.oq T l).2≠0 then (Gm.oq T l).2 else (Gm.context T l).2 by rw[HV.1,ah (by decide),ah (by decide),Gm.getD_at hat]);have hz3:(0:Int)<(n:Int):=by have:=HP.1;omega
     have BU:0<n:=HP.1;clear hat hca HV;go_wp2_with fail
     refine aI (S:=So w V T B b off a) (by kernel_rfl) hs0 (fun hHeld=>?_);refine tk 0 ?_;refine tk 1 ?_;refine tk 2 ?_;refine tk 3 ?_;refine rc 4 fun K hK=>?_;go_simp
     refine (agz hs0 a).mono ?_;rintro e w3 ⟨rfl,hb3,hs3⟩;try go_wp2_with fail
     refine rk hK hs3 fun hHeld=>?_;clear hK K;refine tk 5 ?_;refine aJ (by kernel_rfl) ?_ _;have F3:=jP hs3.fr;have HR3:=jP (HR2.1.drew.below (hb3.mono (show B<=w2.drew.heap.size from F2.1.hx)));clear hs0 hs3 hb3 F2 HR2 hz3 BU;generalize Gm.cat T a=ca at *;by_cases h2:ca=2
     ·have HX:=jP (show nf=15 by rw[uk.1,aj h2]);subst h2;clear uk;go_wp2_with fail
      go_ret
      exact⟨by rw[HX.1];rfl,F3.1.bl⟩
     ·have HV:=jP (show nf=if l.any (fun c=>decide (c=46)||decide (Gm.jU T c≠1/\Gm.jU T c≠4)) then 16 else if (Gm.oq T l).2≠0 then (Gm.oq T l).2 else (Gm.context T l).2 by rw[uk.1,ah h2]);have hb2:(ca==2)=false:=by simpa using h2
      clear uk h2;try rw[hb2]
      go_wp2_with fail
      try rw[hb2]
      clear hb2;go_loopw [41] (fun vi wr=>∃ k:Nat,k<=n/\vi=.int .i64 k/\(l.take k).any (fun c=>decide (c=46)||decide (Gm.jU T c≠1/\Gm.jU T c≠4))=false/\Below w3.heap.size w3 wr) (fun vi _=>n-(intOf vi).toNat)
      case atStart=>exact⟨0,by omega,rfl,rfl,ai _ _⟩
      case round=>
       obtain⟨k,hk,rfl,hno,hb⟩:=hrel;have HI:=jP hb;have HG:=jP hno;have F4:=jP (F3.1.step hb);have HR4:=jP (HR3.1.below (hb.mono F3.1.hx));clear hb hno;by_cases hlt:k<n
       ·obtain⟨b1,o1,x,e1,_,hax,hcx⟩:=jZ HR4.1 hlt;injection e1 with e1
        injection e1 with e1 e2 _
        subst e1;subst e2;have HT:=jP (show (l.take (k+1)).any (fun c=>decide (c=46)||decide (Gm.jU T c≠1/\Gm.jU T c≠4))=(decide (x=46)||decide (Gm.jU T x≠1/\Gm.jU T x≠4)) by
         obtain⟨q1,q2⟩:=ak.1 hax;rw[az q1,q2,jL,HG.1];simp)
        have HM:=jP (show (decide (x=46)||decide (Gm.jU T x≠1/\Gm.jU T x≠4))=true->nf=16 from fun e=>by rw[HV.1,aj (dP.2 ⟨x,ay hax,e⟩)]);have HC:=jP (Gt F4.1.tb F4.1.hx x);obtain⟨x0,x1,x2,x3,x4,x5,x6,x7,x8,x9,x10,x11⟩:=F4.1.cells;clear hax;generalize Gm.jU T x=st at *;go_wp2_with fail
        clear x0 x1 x2 x3 x4 x5 x6 x7 x8 x9 x10 x11 hcx;refine HC.1.mono ?_;rintro e w5 ⟨rfl,hb5⟩;have kY:=jP (HI.1.trans (hb5.mono HI.1.size));have F5:=jP (F4.1.step hb5);clear hb5 HC;by_cases h46:x=46
        ·have HX:=jP (HM.1 (by rw[bT h46];rfl));subst h46;clear HM HT;go_wp2_with fail
         go_ret
         exact⟨by rw[HX.1];rfl,F5.1.bl⟩
        ·have b46:(x==46)=false:=by simpa using h46
         by_cases h1:st=1
         ·have HY:=jP (show (l.take (k+1)).any (fun c=>decide (c=46)||decide (Gm.jU T c≠1/\Gm.jU T c≠4))=false by rw[HT.1];simp[h46,h1]);subst h1;clear HM HT h46;go_wp2_with fail
          go_roundw
          case rel=>exact⟨k+1,by omega,by go_num,HY.1,kY.1⟩
          case measure=>simp[intOf];try omega
         ·have b1:(st != 1)=true:=by simpa using h1
          by_cases h4:st=4
          ·have HY:=jP (show (l.take (k+1)).any (fun c=>decide (c=46)||decide (Gm.jU T c≠1/\Gm.jU T c≠4))=false by rw[HT.1];simp[h46,h4]);subst h4;clear HM HT h46;go_wp2_with fail
           go_roundw
           case rel=>exact⟨k+1,by omega,by go_num,HY.1,kY.1⟩
           case measure=>simp[intOf];try omega
          ·have b4:(st != 4)=true:=by simpa using h4
           have HX:=jP (HM.1 (by simp[h1,h4]));clear HM HT h46 h1 h4;go_wp2_with fail
           go_ret
           exact⟨by rw[HX.1];rfl,F5.1.bl⟩
       ·obtain rfl:k=n:=by omega
        have HV5:=jP (show nf=if (Gm.oq T l).2≠0 then (Gm.oq T l).2 else (Gm.context T l).2 by
         have h1:=HG.1;rw[aP (by have:=HL.1;omega)] at h1;rw[HV.1,h1,ah (by decide)])
        obtain⟨x0,x1,x2,x3,x4,x5,x6,x7,x8,x9,x10,x11⟩:=F4.1.cells;have HC:=jP (WX F4.1.tb F4.1.hx (some ⟨b,off,none⟩) k c l HR4.1 hn);clear HG HV hlt;generalize Gm.oq T l=jr at *;obtain⟨j1,j2⟩:=jr;go_wp2_with fail
        clear x0 x1 x2 x3 x4 x5 x6 x7 x8 x9 x10 x11;refine HC.1.mono ?_;rintro e w5 ⟨rfl,hb5⟩;have F5:=jP (F4.1.step hb5);have v_:=jP (HR4.1.below (hb5.mono F4.1.hx));clear hb5 HC F4 HR4;by_cases hj:j2=0
        ·have HX:=jP (show nf=(Gm.context T l).2 by rw[HV5.1,ah (by simpa using hj)]);have HC:=jP (TJ F5.1.tb F5.1.hx (some ⟨b,off,none⟩) k c l v_.1 hn);obtain⟨x0,x1,x2,x3,x4,x5,x6,x7,x8,x9,x10,x11⟩:=F5.1.cells;subst hj;clear HV5;generalize Gm.context T l=cr at *;obtain⟨c1,c2⟩:=cr;go_wp2_with fail
         clear x0 x1 x2 x3 x4 x5 x6 x7 x8 x9 x10 x11;refine HC.1.mono ?_;rintro e w6 ⟨rfl,hb6⟩;have F6:=jP (F5.1.step hb6);clear hb6 HC;go_wp2_with fail
         go_ret
         exact⟨by rw[HX.1];rfl,F6.1.bl⟩
        ·have HX:=jP (show nf=j2 by rw[HV5.1,aj hj]);have hjb:(j2 != 0)=true:=by simpa using hj
         clear HV5 hj;go_wp2_with fail
         go_ret
         exact⟨by rw[HX.1];rfl,F5.1.bl⟩
 ·have HV:=jP (show nf=Gm.kE l by rw[HN.1,aj h0]);have hb:(Gm.kE l != 0)=true:=by simpa using h0
  clear HN h0;go_wp2_with fail
  go_ret
  exact⟨by rw[HV.1];rfl,F1.1.bl⟩
end
def Gm.sk1 (T:Gm.Tab)(c:Int):List Int:=if Gm.jW T c=true then [] else match Gm.jY T c with
 | some p=>if p=[] then [c] else p
 | none=>[c]
theorem Gm.VT {T:Gm.Tab}{l:List Int}{k:Nat}{x:Int}(h:l[k]?=some x):Gm.qh T (l.take (k+1))=Gm.qh T (l.take k)++Gm.sk1 T x:=by
 obtain⟨q1,q2⟩:=ak.1 h;unfold Gm.qh;rw[az q1,q2,List.flatMap_append,iQ,List.flatMap_nil,fC];rfl
theorem Gm.ae2 {T:Gm.Tab}(hT:Gm.Good T)(c:Int):∀ q,Gm.pX T.jY c=some q->q.length<=8:=fun q hq=>by
 obtain⟨m,hm,_,rfl⟩:=Gm.Dn hq;have h1:=(hT.jY m hm).1;have h2:∀ m∈Gm.uS,m.to.length<=8:=by decide
 exact h2 m h1
def Gm.BL (T:Gm.Tab)(l:List Int):List Int×Int:=if Gm.kE l≠0 then ([],Gm.kE l) else if 4096<(Gm.qh T l).length then ([],7) else (Gm.qh T l,0)
section
variable {w:World} {B:Nat} {V:TV} {T:Gm.Tab}
theorem Yg (h:j_ w B V T)(hB:B<=w.heap.size)(A:Option Addr)(n c:Nat)(l:List Int)(hr:Rd w B 1 A n (ints l))(hn:n<=1000000) :
  Calls Tryz.prog 152 #[kF V,.slice A n c] w (Cb 3 (Gm.BL T l).1 [.int .i64 (Gm.BL T l).2] w):=by
 have F0:=jP (Fr.start h hB);have HR0:=jP (hr.alloc hB (.cells (kK V) 26));have HL:=jP (lY hr);have HN:=jP (show Gm.BL T l=if Gm.kE l≠0 then ([],Gm.kE l) else if 4096<(Gm.qh T l).length then ([],7) else (Gm.qh T l,0) from rfl);have HO:=jP (show (Gm.order T l).2=Gm.kE l by unfold Gm.order;split<;>simp_all);clear h hB hr;generalize Gm.BL T l=nf at *;obtain⟨x0,x1,x2,x3,x4,x5,x6,x7,x8,x9,x10,x11⟩:=F0.1.cells;go_enter Tryz.func152,Tryz.ntmps152
 go_wp2_with fail
 clear x0 x1 x2 x3 x4 x5 x6 x7 x8 x9 x10 x11;refine (rq F0.1.tb F0.1.hx A n c l HR0.1 hn).mono ?_;rw[HO.1];rintro e w1 ⟨A1,c1,rfl,_,hb1⟩;have F1:=jP (F0.1.step hb1);have HR1:=jP (HR0.1.below (hb1.mono F0.1.hx));clear hb1 F0 HR0;generalize (Gm.order T l).1.length=n1 at *;by_cases h0:Gm.kE l=0
 ·have hl4:=Gm.Iz h0;have Zp:n<=4096:=by have:=HL.1;omega
  have HV:=jP (show nf=if 4096<(Gm.qh T l).length then ([],7) else (Gm.qh T l,0) by rw[HN.1,ah (by simpa using h0)]);rw[h0];clear HN h0 hl4;go_wp2_with fail
  go_loopw [8,23] (fun vo vi wr=>∃ (k m:Nat) (A4:Option Addr) (c4:Nat),k<=n/\vi=.int .i64 k/\vo=.slice A4 m c4/\m=(Gm.qh T (l.take k)).length/\m<=8*k/\wr.ownsRow w1.heap.size 3 1 (.slice A4 m c4) m (ints (Gm.qh T (l.take k)))/\Below w1.heap.size w1 wr) (fun _ vi _=>n-(intOf vi).toNat)
  case atStart=>exact⟨0,0,none,0,by omega,rfl,rfl,rfl,by omega,aH _ _ _ _,ai _ _⟩
  case round=>
   obtain⟨k,m,A4,c4,hk,rfl,rfl,hm,hm2,ho,hb⟩:=hrel;have HM:=jP hm;have HOW:=jP ho;have HI:=jP hb;have F3:=jP (F1.1.wK hb F1.1.sz);clear hm ho hb;by_cases hlt:k<n
   ·obtain⟨b,off,x,rfl,hbB,hat,hcell⟩:=jZ (HR1.1.below (HI.1.mono (by have:=F1.1.hx;omega))) hlt;have HS:=jP (Gm.VT (T:=T) hat);obtain⟨x0,x1,x2,x3,x4,x5,x6,x7,x8,x9,x10,x11⟩:=F3.1.cells;have HC:=jP (UQ F3.1.tb F3.1.hx x);have HK:=jP (show Gm.sk1 T x=if Gm.jW T x=true then [] else match Gm.pX T.jY x with | some p=>if p=[] then [x] else p | none=>[x] from rfl);have HF:=jP (Gm.ae2 F3.1.tb.good x);clear hat;generalize Gm.qh T (l.take k)=out at *;generalize Gm.jW T x=ig at *;go_wp2_with fail
    clear x0 x1 x2 x3 x4 x5 x6 x7 x8 x9 x10 x11 hcell;refine HC.1.mono ?_;rintro e w5 ⟨rfl,hb5⟩;have hs5:w1.heap.size<=w5.heap.size:=aK HI.1.size hb5.size;have lD:=jP (kD HOW.1 hb5);have kY:=jP (HI.1.trans (hb5.mono HI.1.size));have F5:=jP (F3.1.step hb5);clear hb5 HC F3 HOW HI;cases ig with
    | true=>
     have HE:=jP (show Gm.qh T (l.take (k+1))=out by rw[HS.1,HK.1,aj rfl,fC]);clear HS HK;go_wp2_with fail
     go_roundw
     case rel=>exact⟨k+1,m,A4,c4,by omega,by go_num,rfl,by rw[HE.1,HM.1],by omega,by rw[HE.1];exact lD.1,kY.1⟩
     case measure=>simp[intOf];try omega
    | false=>
     have HC:=jP (ae3 F5.1.tb F5.1.hx x (fun q hq=>by have:=HF.1 q hq;omega));obtain⟨x0,x1,x2,x3,x4,x5,x6,x7,x8,x9,x10,x11⟩:=F5.1.cells;generalize Gm.pX T.jY x=o at *;go_wp2_with fail
     clear x0 x1 x2 x3 x4 x5 x6 x7 x8 x9 x10 x11;refine HC.1.mono ?_;rintro e w6 ⟨hb6,he⟩;have hs6:w1.heap.size<=w6.heap.size:=aK hs5 hb6.size;have lI:=jP (kD lD.1 hb6);have um:=jP (kY.1.trans (hb6.mono hs5));have F6:=jP (F5.1.step hb6);clear hb6 lD kY F5 HC hs5;cases o with
     | none=>
      simp only at he;subst he;have HE:=jP (show Gm.qh T (l.take (k+1))=out++[x] by rw[HS.1,HK.1,ah (by decide)]);clear HS HK HF;go_wp2_with (at_builtin;refine kW (by rfl) _ _ rfl (base:=w1.heap.size) rfl (lI.1.alloc _) rfl (kG (z:=w6.heap.size) rfl x) (by omega) (by simp<;>omega) ?_)
      intro A7 c7 w7 mG mV qo;have mD:=jP mG;have lN:=jP ((um.1.alloc hs6 _).grown mV (by simp;omega) (pg lI.1));clear mG mV qo;go_wp2_with fail
      go_roundw
      case rel=>exact⟨k+1,m+1,A7,c7,by omega,by go_num,rfl,by rw[HE.1,aA,<-HM.1];rfl,by omega,by rw[HE.1];exact mD.1,lN.1⟩
      case measure=>simp[intOf];try omega
     | some q=>
      obtain⟨A8,c8,rfl,oZ⟩:=he;have hq8:=HF.1 q rfl;by_cases hq0:q=[]
      ·subst hq0;have HE:=jP (show Gm.qh T (l.take (k+1))=out++[x] by rw[HS.1,HK.1,ah (by decide)];rfl);have e0:([]:List Int).length=0:=rfl;rw[e0];clear HS HK HF oZ hq8 e0;go_wp2_with (at_builtin;refine kW (by rfl) _ _ rfl (base:=w1.heap.size) rfl (lI.1.alloc _) rfl (kG (z:=w6.heap.size) rfl x) (by omega) (by simp<;>omega) ?_)
       intro A7 c7 w7 mG mV qo;have mD:=jP mG;have lN:=jP ((um.1.alloc hs6 _).grown mV (by simp;omega) (pg lI.1));clear mG mV qo;go_wp2_with fail
       go_roundw
       case rel=>exact⟨k+1,m+1,A7,c7,by omega,by go_num,rfl,by rw[HE.1,aA,<-HM.1];rfl,by omega,by rw[HE.1];exact mD.1,lN.1⟩
       case measure=>simp[intOf];try omega
      ·have HE:=jP (show Gm.qh T (l.take (k+1))=out++q by rw[HS.1,HK.1,ah (by decide)];simp only[ah hq0]);have p_:=jP (Rd.kX oZ);have hqp:0<q.length:=dK.2 hq0;clear HS HK HF oZ hq0;generalize uB:q.length=qn at *;have HQN:=jP uB;have hqi:(0:Int)<(qn:Int):=by omega
       clear uB;go_wp2_with (at_builtin;refine kW (by rfl) _ _ rfl (base:=w1.heap.size) rfl lI.1 rfl p_.1 (by omega) (by omega) ?_)
       intro A7 c7 w7 mG mV qo;have mD:=jP mG;have lN:=jP (um.1.grown mV hs6 (pg lI.1));clear mG mV qo;go_wp2_with fail
       go_roundw
       case rel=>exact⟨k+1,m+qn,A7,c7,by omega,by go_num,rfl,by rw[HE.1,aA,<-HM.1,HQN.1],by omega,by rw[HE.1];exact mD.1,lN.1⟩
       case measure=>simp[intOf];try omega
   ·obtain rfl:k=n:=by omega
    have hfe:Gm.qh T (l.take k)=Gm.qh T l:=by rw[aP (by have:=HL.1;omega)]
    have lI:=jP (lH HOW.1 (show w.heap.size<=w1.heap.size by have:=F1.1.sz;omega));rw[hfe] at lI HM;rw[<-HM.1] at HV;clear hfe;by_cases h4:4096<m
    ·have HX:=jP (show nf=([],7) by rw[HV.1,aj h4]);have Hl:(4096:Int)<(m:Int):=by omega
     go_wp2_with fail
     go_ret2
     rw[HX.1];exact⟨none,0,rfl,aH _ _ _ _,F3.1.bl⟩
    ·have HX:=jP (show nf=(Gm.qh T l,0) by rw[HV.1,ah h4]);have Hl:¬(4096:Int)<(m:Int):=by omega
     go_wp2_with fail
     go_ret2
     rw[HX.1];exact⟨A4,c4,by rw[<-HM.1];rfl,by rw[<-HM.1];exact lI.1,F3.1.bl⟩
 ·have HV:=jP (show nf=([],Gm.kE l) by rw[HN.1,aj h0]);have hb:(Gm.kE l != 0)=true:=by simpa using h0
  clear HN h0;go_wp2_with fail
  go_ret2
  rw[HV.1];exact⟨none,0,rfl,aH _ _ _ _,F1.1.bl⟩
theorem Gm.Ue (T:Gm.Tab)(l:List Int):Gm.xm T l=if (Gm.oW T l).2≠0 then ([],(Gm.oW T l).2) else if (Gm.BL T (Gm.oW T l).1).2≠0 then ([],(Gm.BL T (Gm.oW T l).1).2) else Gm.oW T (Gm.BL T (Gm.oW T l).1).1:=by
 unfold Gm.xm;split
 ·rfl
 ·unfold Gm.BL;split
  ·rfl
  ·split
   ·rfl
   ·rfl
theorem Gm.Uz {T:Gm.Tab}(l:List Int):(Gm.oW T l).1.length<=4096:=by
 by_cases h:(Gm.oW T l).2=0
 ·obtain⟨_,h2,h3⟩:=Gm.PE h;rw[h2];exact h3
 ·unfold Gm.oW at h ⊢;split
  ·simp
  ·split
   ·simp
   ·simp only;omega
theorem Gm.aeK (T:Gm.Tab)(l:List Int):(Gm.BL T l).1.length<=4096:=by
 unfold Gm.BL;split
 ·simp
 ·split
  ·simp
  ·simp only;omega
theorem aa5 (h:j_ w B V T)(hB:B<=w.heap.size)(A:Option Addr)(n c:Nat)(l:List Int)(hr:Rd w B 1 A n (ints l))(hn:n<=1000000) :
  Calls Tryz.prog 91 #[kF V,.slice A n c] w (Cb 3 (Gm.xm T l).1 [.int .i64 (Gm.xm T l).2] w):=by
 have F0:=jP (Fr.start h hB);have HR0:=jP (hr.alloc hB (.cells (kK V) 26));have HN:=jP (Gm.Ue T l);have Ib:=jP (Gm.Uz (T:=T) l);have HL2:=jP (Gm.aeK T (Gm.oW T l).1);clear h hB hr;generalize Gm.xm T l=nf at *;obtain⟨x0,x1,x2,x3,x4,x5,x6,x7,x8,x9,x10,x11⟩:=F0.1.cells;go_enter Tryz.func91,Tryz.ntmps91
 go_wp2_with fail
 clear x0 x1 x2 x3 x4 x5 x6 x7 x8 x9 x10 x11;refine (La F0.1.tb F0.1.hx A n c l HR0.1 hn).mono ?_;rintro e w1 ⟨A1,c1,rfl,ho1,hb1⟩;have F1:=jP (F0.1.step hb1);have nT:=jP ho1;clear ho1 hb1 F0 HR0;generalize Gm.oW T l=q at *;obtain⟨d,u⟩:=q;simp only at HN Ib HL2 nT;by_cases h0:u=0
 ·subst h0;have HV:=jP (show nf=if (Gm.BL T d).2≠0 then ([],(Gm.BL T d).2) else Gm.oW T (Gm.BL T d).1 by rw[HN.1,ah (by simp)]);obtain⟨x0,x1,x2,x3,x4,x5,x6,x7,x8,x9,x10,x11⟩:=F1.1.cells;clear HN;go_wp2_with fail
  clear x0 x1 x2 x3 x4 x5 x6 x7 x8 x9 x10 x11;refine (Yg (F1.1.tb.more F1.1.hx) (ag _) A1 d.length c1 d (Rd.kX nT.1) (by have:=Ib.1;omega)).mono ?_;rintro e w2 ⟨A2,c2,rfl,ho2,hb2⟩;have F2:=jP (F1.1.step hb2);have lG:=jP ho2;clear ho2 hb2 F1 nT;generalize Gm.BL T d=q at *;obtain⟨d2,u2⟩:=q;simp only at HV HL2 lG;by_cases h2:u2=0
  ·subst h2;have HX:=jP (show nf=Gm.oW T d2 by rw[HV.1,ah (by simp)]);obtain⟨x0,x1,x2,x3,x4,x5,x6,x7,x8,x9,x10,x11⟩:=F2.1.cells;clear HV;go_wp2_with fail
   clear x0 x1 x2 x3 x4 x5 x6 x7 x8 x9 x10 x11;refine (La (F2.1.tb.more F2.1.hx) (ag _) A2 d2.length c2 d2 (Rd.kX lG.1) (by have:=HL2.1;omega)).mono ?_;rintro e w3 ⟨A3,c3,rfl,ho3,hb3⟩;have F3:=jP (F2.1.step hb3);have mX:=jP (lH ho3 (show w.heap.size<=w2.heap.size by have:=F2.1.sz;omega));clear ho3 hb3;rw[<-HX.1] at mX ⊢;go_wp2_with fail
   go_ret2
   exact⟨A3,c3,rfl,mX.1,F3.1.bl⟩
  ·have HX:=jP (show nf=([],u2) by rw[HV.1,aj h2]);have hb:(u2 != 0)=true:=by simpa using h2
   clear HV h2;go_wp2_with fail
   go_ret2
   rw[HX.1];exact⟨none,0,rfl,aH _ _ _ _,F2.1.bl⟩
 ·have HV:=jP (show nf=([],u) by rw[HN.1,aj h0]);have hb:(u != 0)=true:=by simpa using h0
  clear HN h0;go_wp2_with fail
  go_ret2
  rw[HV.1];exact⟨none,0,rfl,aH _ _ _ _,F1.1.bl⟩
end
theorem pM (a b:Nat)(ha:a<2 ^ 64)(hb:b<2 ^ 64):bits .and .u64 (a:Int) (b:Int)=((a &&& b:Nat):Int)/\bits .or .u64 (a:Int) (b:Int)=((a ||| b:Nat):Int):=
 bits_nat .u64 64 (by decide) (fun n h0 h1=>by (rw[IntKind.wrap_u64];have:(2:Int) ^ 64=18446744073709551616:=by decide);omega) a b ha hb
theorem kL (k p:Nat)(hk:k<=63)(hp:p=2 ^ k)(w:World):Calls Tryz.prog 151 #[.int .i64 k] w fun e w'=>e=.returned (.int .u64 p)/\w=w':=by
 have hc:k=0\/k=1\/k=2\/k=3\/k=4\/k=5\/k=6\/k=7\/k=8\/k=9\/k=10\/k=11\/k=12\/k=13\/k=14\/k=15\/k=16\/k=17\/k=18\/k=19\/k=20\/k=21\/k=22\/k=23\/k=24\/k=25\/k=26\/k=27\/k=28\/k=29\/k=30\/k=31\/k=32\/k=33\/k=34\/k=35\/k=36\/k=37\/k=38\/k=39\/k=40\/k=41\/k=42\/k=43\/k=44\/k=45\/k=46\/k=47\/k=48\/k=49\/k=50\/k=51\/k=52\/k=53\/k=54\/k=55\/k=56\/k=57\/k=58\/k=59\/k=60\/k=61\/k=62\/k=63:=by omega
 subst hp;rcases hc with rfl | rfl | rfl | rfl | rfl | rfl | rfl | rfl | rfl | rfl | rfl | rfl | rfl | rfl | rfl | rfl | rfl | rfl | rfl | rfl | rfl | rfl | rfl | rfl | rfl | rfl | rfl | rfl | rfl | rfl | rfl | rfl | rfl | rfl | rfl | rfl | rfl | rfl | rfl | rfl | rfl | rfl | rfl | rfl | rfl | rfl | rfl | rfl | rfl | rfl | rfl | rfl | rfl | rfl | rfl | rfl | rfl | rfl | rfl | rfl | rfl | rfl | rfl | rfl
 all_goals
  go_enter Tryz.func151,Tryz.ntmps151
  go_wp2_with fail
  go_ret
  exact⟨rfl,rfl⟩
theorem Gm.Ui {T:Gm.Tab}(hT:Gm.Good T)(c:Int):0<=Gm.scr T c/\Gm.scr T c<=60:=by
 unfold Gm.scr Gm.pick;split
 ·decide
 ·split
  ·unfold Gm.kZ;repeat' split
   all_goals decide
  ·exact hT.scr.range (by decide) c
theorem Gm.Jm {T:Gm.Tab}(hT:Gm.Good T)(c:Int):Gm.scripts T c=[]\/Gm.scripts T c=[7,8]:=by
 unfold Gm.scripts Gm.pX;rcases hT.ext with e | e<;>rw[e]
 ·exact .inl rfl
 ·by_cases h:(12539:Int)=c
  ·right;subst h;rfl
  ·left;rw[gz (by simpa using h)];rfl
section
variable {w:World} {B:Nat} {V:TV} {T:Gm.Tab}
theorem aaj (h:j_ w B V T)(hB:B<=w.heap.size)(c:Int) :
  Calls Tryz.prog 258 #[kF V,.int .i64 c] w fun e w'=>e=.returned (.int .u64 (Gm.basis T c:Nat))/\Below w.heap.size w w':=by
 have F0:=jP (Fr.start h hB);have HS:=jP (Gm.Jm h.good c);have HN:=jP (show Gm.basis T c=if Gm.scripts T c=[] then 2 ^ (Gm.scr T c).toNat else Gm.bits (Gm.scripts T c) from rfl);clear h hB;generalize Gm.basis T c=nf at *;obtain⟨x0,x1,x2,x3,x4,x5,x6,x7,x8,x9,x10,x11⟩:=F0.1.cells;go_enter Tryz.func258,Tryz.ntmps258
 go_wp2_with fail
 clear x0 x1 x2 x3 x4 x5 x6 x7 x8 x9 x10 x11;refine (OM F0.1.tb F0.1.hx c).mono ?_;rintro e w1 ⟨A1,c1,rfl,ho1,hb1⟩;have F1:=jP (F0.1.step hb1);clear hb1 F0;rcases HS.1 with hs | hs
 ·have HX:=jP (show nf=2 ^ (Gm.scr T c).toNat by rw[HN.1,aj hs]);have HC:=jP (KQ F1.1.tb F1.1.hx c);have HK:=jP (Gm.Ui F1.1.tb.good c);have hl:(Gm.scripts T c).length=0:=by rw[hs];rfl
  rw[hl];clear HN hs ho1 hl;obtain⟨k,hk⟩:∃ k:Nat,Gm.scr T c=(k:Int):=⟨(Gm.scr T c).toNat,by have:=HK.1.1;omega⟩;rw[hk,bU] at HX;rw[hk] at HC HK;clear hk;obtain⟨x0,x1,x2,x3,x4,x5,x6,x7,x8,x9,x10,x11⟩:=F1.1.cells;go_wp2_with fail
  clear x0 x1 x2 x3 x4 x5 x6 x7 x8 x9 x10 x11;refine HC.1.mono ?_;rintro e w5 ⟨rfl,hb5⟩;have F5:=jP (F1.1.step hb5);clear hb5 HC;go_wp2_with fail
  refine (kL k nf (by have:=HK.1.2;omega) HX.1 w5).mono ?_;rintro e w6 ⟨rfl,hw6⟩;subst hw6;go_wp2_with fail
  go_ret
  exact⟨rfl,F5.1.bl⟩
 ·have HX:=jP (show nf=384 by rw[HN.1,ah (by rw[hs];decide),hs];decide);rw[hs] at ho1 ⊢;obtain⟨g,rfl,hg1,hg2,hnc,hcell,_⟩:=xw ho1 (by decide);have y0:w1.cell? ⟨g,0,none⟩=some (.int .i64 7):=hcell 0 _ rfl;have y1:w1.cell? ⟨g,1,none⟩=some (.int .i64 8):=hcell 1 _ rfl;have e2:([7,8]:List Int).length=2:=rfl;rw[e2];clear HN hs ho1 hcell hnc e2;have B7:=jP (fun W=>kL 7 128 (by decide) (by decide) W);have B8:=jP (fun W=>kL 8 256 (by decide) (by decide) W);have o1:bits .or .u64 0 128=128:=by decide
  have o2:bits .or .u64 128 256=384:=by decide
  go_wp2_with fail
  go_loopw [6,21] (fun vs vi wr=>wr=w1/\((vi=.int .i64 0/\vs=.int .u64 0)\/(vi=.int .i64 1/\vs=.int .u64 128)\/(vi=.int .i64 2/\vs=.int .u64 384))) (fun _ vi _=>2-(intOf vi).toNat)
  case atStart=>exact⟨rfl,.inl ⟨rfl,rfl⟩⟩
  case round=>
   obtain⟨rfl,⟨rfl,rfl⟩ | ⟨rfl,rfl⟩ | ⟨rfl,rfl⟩⟩:=hrel
   ·go_wp2_with fail
    refine (B7.1 _).mono ?_;rintro e w6 ⟨rfl,hw6⟩;subst hw6;go_wp2_with fail
    go_roundw
    case rel=>exact⟨trivial,.inr (.inl ⟨rfl,rfl⟩)⟩
    case measure=>simp[intOf];try omega
   ·go_wp2_with fail
    refine (B8.1 _).mono ?_;rintro e w6 ⟨rfl,hw6⟩;subst hw6;go_wp2_with fail
    go_roundw
    case rel=>exact⟨trivial,.inr (.inr ⟨rfl,rfl⟩)⟩
    case measure=>simp[intOf];try omega
   ·go_wp2_with fail
    go_ret
    exact⟨by rw[HX.1];rfl,F1.1.bl⟩
end
theorem Gm.Q5 {T:Gm.Tab}(hT:Gm.Good T)(c:Int):Gm.basis T c<2 ^ 64:=by
 unfold Gm.basis;split
 ·have:=Gm.Ui hT c;exact Nat.pow_lt_pow_right (by decide) (by omega)
 ·rcases Gm.Jm hT c with h | h
  ·contradiction
  ·rw[h];decide
theorem FK (s m:Nat)(hs:s<2 ^ 64)(hm:m<2 ^ 64)(b:Bool)(hb:(s &&& m != 0)=b):(bits .and .u64 (s:Int) (m:Int) != 0)=b:=by
 rw[(pM s m hs hm).1,<-hb];generalize s &&& m=d;by_cases h:d=0
 ·subst h;rfl
 ·have h2:(d:Int)≠0:=by omega
  rw[fK.2 h,fK.2 h2]
section
variable {w:World} {B:Nat} {V:TV} {T:Gm.Tab}
theorem OG (h:j_ w B V T)(hB:B<=w.heap.size)(c:Int) :
  Calls Tryz.prog 216 #[kF V,.int .i64 c] w fun e w'=>e=.returned (.int .u64 (Gm.sset T c:Nat))/\Below w.heap.size w w':=by
 have F0:=jP (Fr.start h hB);have NS:=jP (Gm.Q5 h.good c);have HN:=jP (show Gm.sset T c=if Gm.basis T c &&& Gm.bits [1,2]≠0 then Gm.allB else if Gm.basis T c=1 then 0 else Gm.basis T c ||| (if Gm.basis T c &&& Gm.bits [6]≠0 then Gm.bits [61,62,63] else 0) ||| (if Gm.basis T c &&& Gm.bits [7,8]≠0 then Gm.bits [62] else 0) ||| (if Gm.basis T c &&& Gm.bits [9]≠0 then Gm.bits [63] else 0) ||| (if Gm.basis T c &&& Gm.bits [10]≠0 then Gm.bits [61] else 0) from rfl);clear h hB;obtain⟨x0,x1,x2,x3,x4,x5,x6,x7,x8,x9,x10,x11⟩:=F0.1.cells;have HC:=jP (aaj F0.1.tb F0.1.hx c);generalize Gm.sset T c=nf at *;generalize Gm.basis T c=j0 at *;have HM:=jP (show nf=if (j0 &&& 6 != 0)=true then 18446744073709551615 else if j0=1 then 0 else j0 ||| (if (j0 &&& 64 != 0)=true then 16140901064495857664 else 0) ||| (if (j0 &&& 384 != 0)=true then 4611686018427387904 else 0) ||| (if (j0 &&& 512 != 0)=true then 9223372036854775808 else 0) ||| (if (j0 &&& 1024 != 0)=true then 2305843009213693952 else 0) by
  rw[HN.1,show Gm.bits [1,2]=6 by decide,show Gm.bits [6]=64 by decide,show Gm.bits [7,8]=384 by decide,show Gm.bits [9]=512 by decide,show Gm.bits [10]=1024 by decide,show Gm.bits [61,62,63]=16140901064495857664 by decide,show Gm.bits [62]=4611686018427387904 by decide,show Gm.bits [63]=9223372036854775808 by decide,show Gm.bits [61]=2305843009213693952 by decide];simp only[fK];rfl)
 clear HN;generalize h6:(j0 &&& 6 != 0)=b6 at *;generalize h64:(j0 &&& 64 != 0)=b1 at *;generalize ahJ:(j0 &&& 384 != 0)=b2 at *;generalize ahI:(j0 &&& 512 != 0)=b3 at *;generalize adW:(j0 &&& 1024 != 0)=b4 at *;have a6:(bits .and .u64 (j0:Int) 6 != 0)=b6:=FK j0 6 NS.1 (by decide) _ h6;have a64:(bits .and .u64 (j0:Int) 64 != 0)=b1:=FK j0 64 NS.1 (by decide) _ h64;have apm:(bits .and .u64 (j0:Int) 384 != 0)=b2:=FK j0 384 NS.1 (by decide) _ ahJ;have apl:(bits .and .u64 (j0:Int) 512 != 0)=b3:=FK j0 512 NS.1 (by decide) _ ahI;have aoM:(bits .and .u64 (j0:Int) 1024 != 0)=b4:=FK j0 1024 NS.1 (by decide) _ adW;clear h6 h64 ahJ ahI adW;have o0:bits .or .u64 2 4=6:=by decide
 have o1:bits .or .u64 128 256=384:=by decide
 have o2:bits .or .u64 2305843009213693952 4611686018427387904=6917529027641081856:=by decide
 have o3:bits .or .u64 6917529027641081856 9223372036854775808=16140901064495857664:=by decide
 go_enter Tryz.func216,Tryz.ntmps216
 go_wp2_with fail
 clear x0 x1 x2 x3 x4 x5 x6 x7 x8 x9 x10 x11;refine HC.1.mono ?_;rintro e w1 ⟨rfl,hb1⟩;have F1:=jP (F0.1.step hb1);clear hb1 F0 HC;go_wp2_with fail
 refine (kL 1 2 (by decide) (by decide) _).mono ?_;rintro e w6 ⟨rfl,hw6⟩;subst hw6;go_wp2_with fail
 refine (kL 2 4 (by decide) (by decide) _).mono ?_;rintro e w6 ⟨rfl,hw6⟩;subst hw6;cases b6 with
 | true=>
  have HX:=jP (show nf=18446744073709551615 by rw[HM.1,aj rfl]);go_wp2_with fail
  go_ret
  exact⟨by rw[HX.1];rfl,F1.1.bl⟩
 | false=>
  go_wp2_with fail
  refine (kL 0 1 (by decide) (by decide) _).mono ?_;rintro e w6 ⟨rfl,hw6⟩;subst hw6;by_cases h1:j0=1
  ·have HX:=jP (show nf=0 by rw[HM.1,ah (by decide),aj h1]);have h1b:((j0:Int)==1)=true:=by rw[dA];omega
   clear h1;go_wp2_with fail
   go_ret
   exact⟨by rw[HX.1];rfl,F1.1.bl⟩
  ·have HX0:=jP (show nf=j0 ||| (if b1=true then 16140901064495857664 else 0) ||| (if b2=true then 4611686018427387904 else 0) ||| (if b3=true then 9223372036854775808 else 0) ||| (if b4=true then 2305843009213693952 else 0) by rw[HM.1,ah (by decide),ah h1]);have h1b:((j0:Int)==1)=false:=by rw[aX];omega
   clear h1 HM;go_wp2_with fail
   refine (kL 6 64 (by decide) (by decide) _).mono ?_;rintro e w6 ⟨rfl,hw6⟩;subst hw6;cases b1 with
   | true=>
    have hor:=(pM j0 16140901064495857664 NS.1 (by decide)).2;have zi:=jP (show j0 ||| 16140901064495857664<2 ^ 64 from bI NS.1 (by decide));have qK:=jP (show nf=(j0 ||| 16140901064495857664) ||| (if b2=true then 4611686018427387904 else 0) ||| (if b3=true then 9223372036854775808 else 0) ||| (if b4=true then 2305843009213693952 else 0) by rw[HX0.1];rfl);clear HX0;generalize j0 ||| 16140901064495857664=j1 at *;have hor2:bits .or .u64 (j0:Int) 16140901064495857664=(j1:Int):=hor;clear hor;go_wp2_with fail
    refine (kL 61 2305843009213693952 (by decide) (by decide) _).mono ?_;rintro e w6 ⟨rfl,hw6⟩;subst hw6;go_wp2_with fail
    refine (kL 62 4611686018427387904 (by decide) (by decide) _).mono ?_;rintro e w6 ⟨rfl,hw6⟩;subst hw6;go_wp2_with fail
    refine (kL 63 9223372036854775808 (by decide) (by decide) _).mono ?_;rintro e w6 ⟨rfl,hw6⟩;subst hw6;go_wp2_with fail
    refine (kL 7 128 (by decide) (by decide) _).mono ?_;rintro e w6 ⟨rfl,hw6⟩;subst hw6;go_wp2_with fail
    refine (kL 8 256 (by decide) (by decide) _).mono ?_;rintro e w6 ⟨rfl,hw6⟩;subst hw6;cases b2 with
    | true=>
     have hor:=(pM j1 4611686018427387904 zi.1 (by decide)).2;have HJ2:=jP (show j1 ||| 4611686018427387904<2 ^ 64 from bI zi.1 (by decide));have lV:=jP (show nf=(j1 ||| 4611686018427387904) ||| (if b3=true then 9223372036854775808 else 0) ||| (if b4=true then 2305843009213693952 else 0) by rw[qK.1];rfl);clear qK;generalize j1 ||| 4611686018427387904=j2 at *;have hor2:bits .or .u64 (j1:Int) 4611686018427387904=(j2:Int):=hor;clear hor;go_wp2_with fail
     refine (kL 62 4611686018427387904 (by decide) (by decide) _).mono ?_;rintro e w6 ⟨rfl,hw6⟩;subst hw6;go_wp2_with fail
     refine (kL 9 512 (by decide) (by decide) _).mono ?_;rintro e w6 ⟨rfl,hw6⟩;subst hw6;cases b3 with
     | true=>
      have hor:=(pM j2 9223372036854775808 HJ2.1 (by decide)).2;have rH:=jP (show j2 ||| 9223372036854775808<2 ^ 64 from bI HJ2.1 (by decide));have lM:=jP (show nf=(j2 ||| 9223372036854775808) ||| (if b4=true then 2305843009213693952 else 0) by rw[lV.1];rfl);clear lV;generalize j2 ||| 9223372036854775808=j3 at *;have hor2:bits .or .u64 (j2:Int) 9223372036854775808=(j3:Int):=hor;clear hor;go_wp2_with fail
      refine (kL 63 9223372036854775808 (by decide) (by decide) _).mono ?_;rintro e w6 ⟨rfl,hw6⟩;subst hw6;go_wp2_with fail
      refine (kL 10 1024 (by decide) (by decide) _).mono ?_;rintro e w6 ⟨rfl,hw6⟩;subst hw6;cases b4 with
      | true=>
       have hor:=(pM j3 2305843009213693952 rH.1 (by decide)).2;have BC:=jP (show j3 ||| 2305843009213693952<2 ^ 64 from bI rH.1 (by decide));have nM:=jP (show nf=(j3 ||| 2305843009213693952) by rw[lM.1];rfl);clear lM;generalize j3 ||| 2305843009213693952=j4 at *;have hor2:bits .or .u64 (j3:Int) 2305843009213693952=(j4:Int):=hor;clear hor;go_wp2_with fail
       refine (kL 61 2305843009213693952 (by decide) (by decide) _).mono ?_;rintro e w6 ⟨rfl,hw6⟩;subst hw6;go_wp2_with fail
       go_ret
       exact⟨by rw[nM.1];rfl,F1.1.bl⟩
      | false=>
       have nM:=jP (show nf=j3 by rw[lM.1];simp only[bJ,fQ,fD]);have BC:=rH;clear lM;go_wp2_with fail
       go_ret
       exact⟨by rw[nM.1];rfl,F1.1.bl⟩
     | false=>
      have lM:=jP (show nf=j2 ||| (if b4=true then 2305843009213693952 else 0) by rw[lV.1];simp only[bJ,fQ,fD]);have rH:=HJ2;clear lV;go_wp2_with fail
      refine (kL 10 1024 (by decide) (by decide) _).mono ?_;rintro e w6 ⟨rfl,hw6⟩;subst hw6;cases b4 with
      | true=>
       have hor:=(pM j2 2305843009213693952 rH.1 (by decide)).2;have BC:=jP (show j2 ||| 2305843009213693952<2 ^ 64 from bI rH.1 (by decide));have nM:=jP (show nf=(j2 ||| 2305843009213693952) by rw[lM.1];rfl);clear lM;generalize j2 ||| 2305843009213693952=j4 at *;have hor2:bits .or .u64 (j2:Int) 2305843009213693952=(j4:Int):=hor;clear hor;go_wp2_with fail
       refine (kL 61 2305843009213693952 (by decide) (by decide) _).mono ?_;rintro e w6 ⟨rfl,hw6⟩;subst hw6;go_wp2_with fail
       go_ret
       exact⟨by rw[nM.1];rfl,F1.1.bl⟩
      | false=>
       have nM:=jP (show nf=j2 by rw[lM.1];simp only[bJ,fQ,fD]);have BC:=rH;clear lM;go_wp2_with fail
       go_ret
       exact⟨by rw[nM.1];rfl,F1.1.bl⟩
    | false=>
     have lV:=jP (show nf=j1 ||| (if b3=true then 9223372036854775808 else 0) ||| (if b4=true then 2305843009213693952 else 0) by rw[qK.1];simp only[bJ,fQ,fD]);have HJ2:=zi;clear qK;go_wp2_with fail
     refine (kL 9 512 (by decide) (by decide) _).mono ?_;rintro e w6 ⟨rfl,hw6⟩;subst hw6;cases b3 with
     | true=>
      have hor:=(pM j1 9223372036854775808 HJ2.1 (by decide)).2;have rH:=jP (show j1 ||| 9223372036854775808<2 ^ 64 from bI HJ2.1 (by decide));have lM:=jP (show nf=(j1 ||| 9223372036854775808) ||| (if b4=true then 2305843009213693952 else 0) by rw[lV.1];rfl);clear lV;generalize j1 ||| 9223372036854775808=j3 at *;have hor2:bits .or .u64 (j1:Int) 9223372036854775808=(j3:Int):=hor;clear hor;go_wp2_with fail
      refine (kL 63 9223372036854775808 (by decide) (by decide) _).mono ?_;rintro e w6 ⟨rfl,hw6⟩;subst hw6;go_wp2_with fail
      refine (kL 10 1024 (by decide) (by decide) _).mono ?_;rintro e w6 ⟨rfl,hw6⟩;subst hw6;cases b4 with
      | true=>
       have hor:=(pM j3 2305843009213693952 rH.1 (by decide)).2;have BC:=jP (show j3 ||| 2305843009213693952<2 ^ 64 from bI rH.1 (by decide));have nM:=jP (show nf=(j3 ||| 2305843009213693952) by rw[lM.1];rfl);clear lM;generalize j3 ||| 2305843009213693952=j4 at *;have hor2:bits .or .u64 (j3:Int) 2305843009213693952=(j4:Int):=hor;clear hor;go_wp2_with fail
       refine (kL 61 2305843009213693952 (by decide) (by decide) _).mono ?_;rintro e w6 ⟨rfl,hw6⟩;subst hw6;go_wp2_with fail
       go_ret
       exact⟨by rw[nM.1];rfl,F1.1.bl⟩
      | false=>
       have nM:=jP (show nf=j3 by rw[lM.1];simp only[bJ,fQ,fD]);have BC:=rH;clear lM;go_wp2_with fail
       go_ret
       exact⟨by rw[nM.1];rfl,F1.1.bl⟩
     | false=>
      have lM:=jP (show nf=j1 ||| (if b4=true then 2305843009213693952 else 0) by rw[lV.1];simp only[bJ,fQ,fD]);have rH:=HJ2;clear lV;go_wp2_with fail
      refine (kL 10 1024 (by decide) (by decide) _).mono ?_;rintro e w6 ⟨rfl,hw6⟩;subst hw6;cases b4 with
      | true=>
       have hor:=(pM j1 2305843009213693952 rH.1 (by decide)).2;have BC:=jP (show j1 ||| 2305843009213693952<2 ^ 64 from bI rH.1 (by decide));have nM:=jP (show nf=(j1 ||| 2305843009213693952) by rw[lM.1];rfl);clear lM;generalize j1 ||| 2305843009213693952=j4 at *;have hor2:bits .or .u64 (j1:Int) 2305843009213693952=(j4:Int):=hor;clear hor;go_wp2_with fail
       refine (kL 61 2305843009213693952 (by decide) (by decide) _).mono ?_;rintro e w6 ⟨rfl,hw6⟩;subst hw6;go_wp2_with fail
       go_ret
       exact⟨by rw[nM.1];rfl,F1.1.bl⟩
      | false=>
       have nM:=jP (show nf=j1 by rw[lM.1];simp only[bJ,fQ,fD]);have BC:=rH;clear lM;go_wp2_with fail
       go_ret
       exact⟨by rw[nM.1];rfl,F1.1.bl⟩
   | false=>
    have qK:=jP (show nf=j0 ||| (if b2=true then 4611686018427387904 else 0) ||| (if b3=true then 9223372036854775808 else 0) ||| (if b4=true then 2305843009213693952 else 0) by rw[HX0.1];simp only[bJ,fQ,fD]);have zi:=NS;clear HX0;go_wp2_with fail
    refine (kL 7 128 (by decide) (by decide) _).mono ?_;rintro e w6 ⟨rfl,hw6⟩;subst hw6;go_wp2_with fail
    refine (kL 8 256 (by decide) (by decide) _).mono ?_;rintro e w6 ⟨rfl,hw6⟩;subst hw6;cases b2 with
    | true=>
     have hor:=(pM j0 4611686018427387904 zi.1 (by decide)).2;have HJ2:=jP (show j0 ||| 4611686018427387904<2 ^ 64 from bI zi.1 (by decide));have lV:=jP (show nf=(j0 ||| 4611686018427387904) ||| (if b3=true then 9223372036854775808 else 0) ||| (if b4=true then 2305843009213693952 else 0) by rw[qK.1];rfl);clear qK;generalize j0 ||| 4611686018427387904=j2 at *;have hor2:bits .or .u64 (j0:Int) 4611686018427387904=(j2:Int):=hor;clear hor;go_wp2_with fail
     refine (kL 62 4611686018427387904 (by decide) (by decide) _).mono ?_;rintro e w6 ⟨rfl,hw6⟩;subst hw6;go_wp2_with fail
     refine (kL 9 512 (by decide) (by decide) _).mono ?_;rintro e w6 ⟨rfl,hw6⟩;subst hw6;cases b3 with
     | true=>
      have hor:=(pM j2 9223372036854775808 HJ2.1 (by decide)).2;have rH:=jP (show j2 ||| 9223372036854775808<2 ^ 64 from bI HJ2.1 (by decide));have lM:=jP (show nf=(j2 ||| 9223372036854775808) ||| (if b4=true then 2305843009213693952 else 0) by rw[lV.1];rfl);clear lV;generalize j2 ||| 9223372036854775808=j3 at *;have hor2:bits .or .u64 (j2:Int) 9223372036854775808=(j3:Int):=hor;clear hor;go_wp2_with fail
      refine (kL 63 9223372036854775808 (by decide) (by decide) _).mono ?_;rintro e w6 ⟨rfl,hw6⟩;subst hw6;go_wp2_with fail
      refine (kL 10 1024 (by decide) (by decide) _).mono ?_;rintro e w6 ⟨rfl,hw6⟩;subst hw6;cases b4 with
      | true=>
       have hor:=(pM j3 2305843009213693952 rH.1 (by decide)).2;have BC:=jP (show j3 ||| 2305843009213693952<2 ^ 64 from bI rH.1 (by decide));have nM:=jP (show nf=(j3 ||| 2305843009213693952) by rw[lM.1];rfl);clear lM;generalize j3 ||| 2305843009213693952=j4 at *;have hor2:bits .or .u64 (j3:Int) 2305843009213693952=(j4:Int):=hor;clear hor;go_wp2_with fail
       refine (kL 61 2305843009213693952 (by decide) (by decide) _).mono ?_;rintro e w6 ⟨rfl,hw6⟩;subst hw6;go_wp2_with fail
       go_ret
       exact⟨by rw[nM.1];rfl,F1.1.bl⟩
      | false=>
       have nM:=jP (show nf=j3 by rw[lM.1];simp only[bJ,fQ,fD]);have BC:=rH;clear lM;go_wp2_with fail
       go_ret
       exact⟨by rw[nM.1];rfl,F1.1.bl⟩
     | false=>
      have lM:=jP (show nf=j2 ||| (if b4=true then 2305843009213693952 else 0) by rw[lV.1];simp only[bJ,fQ,fD]);have rH:=HJ2;clear lV;go_wp2_with fail
      refine (kL 10 1024 (by decide) (by decide) _).mono ?_;rintro e w6 ⟨rfl,hw6⟩;subst hw6;cases b4 with
      | true=>
       have hor:=(pM j2 2305843009213693952 rH.1 (by decide)).2;have BC:=jP (show j2 ||| 2305843009213693952<2 ^ 64 from bI rH.1 (by decide));have nM:=jP (show nf=(j2 ||| 2305843009213693952) by rw[lM.1];rfl);clear lM;generalize j2 ||| 2305843009213693952=j4 at *;have hor2:bits .or .u64 (j2:Int) 2305843009213693952=(j4:Int):=hor;clear hor;go_wp2_with fail
       refine (kL 61 2305843009213693952 (by decide) (by decide) _).mono ?_;rintro e w6 ⟨rfl,hw6⟩;subst hw6;go_wp2_with fail
       go_ret
       exact⟨by rw[nM.1];rfl,F1.1.bl⟩
      | false=>
       have nM:=jP (show nf=j2 by rw[lM.1];simp only[bJ,fQ,fD]);have BC:=rH;clear lM;go_wp2_with fail
       go_ret
       exact⟨by rw[nM.1];rfl,F1.1.bl⟩
    | false=>
     have lV:=jP (show nf=j0 ||| (if b3=true then 9223372036854775808 else 0) ||| (if b4=true then 2305843009213693952 else 0) by rw[qK.1];simp only[bJ,fQ,fD]);have HJ2:=zi;clear qK;go_wp2_with fail
     refine (kL 9 512 (by decide) (by decide) _).mono ?_;rintro e w6 ⟨rfl,hw6⟩;subst hw6;cases b3 with
     | true=>
      have hor:=(pM j0 9223372036854775808 HJ2.1 (by decide)).2;have rH:=jP (show j0 ||| 9223372036854775808<2 ^ 64 from bI HJ2.1 (by decide));have lM:=jP (show nf=(j0 ||| 9223372036854775808) ||| (if b4=true then 2305843009213693952 else 0) by rw[lV.1];rfl);clear lV;generalize j0 ||| 9223372036854775808=j3 at *;have hor2:bits .or .u64 (j0:Int) 9223372036854775808=(j3:Int):=hor;clear hor;go_wp2_with fail
      refine (kL 63 9223372036854775808 (by decide) (by decide) _).mono ?_;rintro e w6 ⟨rfl,hw6⟩;subst hw6;go_wp2_with fail
      refine (kL 10 1024 (by decide) (by decide) _).mono ?_;rintro e w6 ⟨rfl,hw6⟩;subst hw6;cases b4 with
      | true=>
       have hor:=(pM j3 2305843009213693952 rH.1 (by decide)).2;have BC:=jP (show j3 ||| 2305843009213693952<2 ^ 64 from bI rH.1 (by decide));have nM:=jP (show nf=(j3 ||| 2305843009213693952) by rw[lM.1];rfl);clear lM;generalize j3 ||| 2305843009213693952=j4 at *;have hor2:bits .or .u64 (j3:Int) 2305843009213693952=(j4:Int):=hor;clear hor;go_wp2_with fail
       refine (kL 61 2305843009213693952 (by decide) (by decide) _).mono ?_;rintro e w6 ⟨rfl,hw6⟩;subst hw6;go_wp2_with fail
       go_ret
       exact⟨by rw[nM.1];rfl,F1.1.bl⟩
      | false=>
       have nM:=jP (show nf=j3 by rw[lM.1];simp only[bJ,fQ,fD]);have BC:=rH;clear lM;go_wp2_with fail
       go_ret
       exact⟨by rw[nM.1];rfl,F1.1.bl⟩
     | false=>
      have lM:=jP (show nf=j0 ||| (if b4=true then 2305843009213693952 else 0) by rw[lV.1];simp only[bJ,fQ,fD]);have rH:=HJ2;clear lV;go_wp2_with fail
      refine (kL 10 1024 (by decide) (by decide) _).mono ?_;rintro e w6 ⟨rfl,hw6⟩;subst hw6;cases b4 with
      | true=>
       have hor:=(pM j0 2305843009213693952 rH.1 (by decide)).2;have BC:=jP (show j0 ||| 2305843009213693952<2 ^ 64 from bI rH.1 (by decide));have nM:=jP (show nf=(j0 ||| 2305843009213693952) by rw[lM.1];rfl);clear lM;generalize j0 ||| 2305843009213693952=j4 at *;have hor2:bits .or .u64 (j0:Int) 2305843009213693952=(j4:Int):=hor;clear hor;go_wp2_with fail
       refine (kL 61 2305843009213693952 (by decide) (by decide) _).mono ?_;rintro e w6 ⟨rfl,hw6⟩;subst hw6;go_wp2_with fail
       go_ret
       exact⟨by rw[nM.1];rfl,F1.1.bl⟩
      | false=>
       have nM:=jP (show nf=j0 by rw[lM.1];simp only[bJ,fQ,fD]);have BC:=rH;clear lM;go_wp2_with fail
       go_ret
       exact⟨by rw[nM.1];rfl,F1.1.bl⟩
end
theorem Gm.T_ {T:Gm.Tab}(hT:Gm.Good T)(c:Int):Gm.sset T c<2 ^ 64:=by
 have hb:=Gm.Q5 hT c;unfold Gm.sset;simp only;split
 ·decide
 ·split
  ·decide
  ·refine bI (bI (bI (bI hb ?_) ?_) ?_) ?_<;>split<;>decide
theorem and_eq (s m:Nat)(hs:s<2 ^ 64)(hm:m<2 ^ 64)(b:Bool)(hb:(s &&& m==0)=b):(bits .and .u64 (s:Int) (m:Int)==0)=b:=by
 rw[(pM s m hs hm).1,<-hb];generalize s &&& m=d;by_cases h:d=0
 ·subst h;rfl
 ·have h2:(d:Int)≠0:=by omega
  rw[aX.2 h,aX.2 h2]
section
variable {w:World} {B:Nat} {V:TV} {T:Gm.Tab}
theorem Hr (h:j_ w B V T)(hB:B<=w.heap.size)(A:Option Addr)(n c:Nat)(l:List Int)(hr:Rd w B 1 A n (ints l))(hn:n<=1000000)(m:Nat)(hm:m<2 ^ 64) :
  Calls Tryz.prog 150 #[kF V,.slice A n c,.int .u64 m] w fun e w'=>e=.returned (.bool (Gm.covered T l m))/\Below w.heap.size w w':=by
 have F0:=jP (Fr.start h hB);have HR0:=jP (hr.alloc hB (.cells (kK V) 26));have HL:=jP (lY hr);have pU:=jP hm;have HN:=jP (show Gm.covered T l m=l.all (fun c=>decide (Gm.sset T c &&& m≠0)) from rfl);clear h hr hm;generalize Gm.covered T l m=nf at *;go_enter Tryz.func150,Tryz.ntmps150
 go_wp2_with fail
 generalize hw1:w.alloc (.cells (kK V) 26)=w1 at *;clear hw1;go_loopw [11] (fun vi wr=>∃ k:Nat,k<=n/\vi=.int .i64 k/\(l.take k).all (fun c=>decide (Gm.sset T c &&& m≠0))=true/\Below w1.heap.size w1 wr) (fun vi _=>n-(intOf vi).toNat)
 case atStart=>exact⟨0,by omega,rfl,rfl,ai _ _⟩
 case round=>
  obtain⟨k,hk,rfl,hs,hb⟩:=hrel;have F2:=jP (F0.1.step hb);have HI:=jP hb;have HS:=jP hs;clear hb hs;by_cases hlt:k<n
  ·obtain⟨b,off,x,rfl,hbB,hat,hcell⟩:=jZ (HR0.1.below (HI.1.mono F0.1.hx)) hlt;have HT:=jP (show (l.take (k+1)).all (fun c=>decide (Gm.sset T c &&& m≠0))=decide (Gm.sset T x &&& m≠0) by
    obtain⟨q1,q2⟩:=ak.1 hat;rw[az q1,q2,List.all_append,HS.1];simp)
   have HM:=jP (show Gm.sset T x &&& m=0->nf=false from fun e=>by
    rw[HN.1,List.all_eq_false];exact⟨x,ay hat,by simp[e]⟩)
   have HC:=jP (OG F2.1.tb F2.1.hx x);have HLT:=jP (Gm.T_ F2.1.tb.good x);obtain⟨x0,x1,x2,x3,x4,x5,x6,x7,x8,x9,x10,x11⟩:=F2.1.cells;clear hat;generalize Gm.sset T x=s at *;generalize hb:(s &&& m==0)=q at *;have HB:=jP hb;have ha:=and_eq s m HLT.1 pU.1 q hb;clear hb;go_wp2_with fail
   clear x0 x1 x2 x3 x4 x5 x6 x7 x8 x9 x10 x11 hcell;refine HC.1.mono ?_;rintro e w5 ⟨rfl,hb5⟩;have kY:=jP (HI.1.trans (hb5.mono HI.1.size));have F5:=jP (F2.1.step hb5);clear hb5 HC F2 HI;cases q with
   | true=>
    have HX:=jP (HM.1 (by have:=HB.1;simpa using this));clear HM HT;go_wp2_with fail
    go_ret
    exact⟨by rw[HX.1];rfl,F5.1.bl⟩
   | false=>
    have HX:=jP (show (l.take (k+1)).all (fun c=>decide (Gm.sset T c &&& m≠0))=true by rw[HT.1];have:=HB.1;simpa using this);clear HM HT;go_wp2_with fail
    go_roundw
    case rel=>exact⟨k+1,by omega,by go_num,HX.1,kY.1⟩
    case measure=>simp[intOf];try omega
  ·obtain rfl:k=n:=by omega
   have HX:=jP (show nf=true by
    have h1:=HS.1;rw[aP (by have:=HL.1;omega)] at h1;rw[HN.1,h1])
   go_wp2_with fail
   go_ret
   exact⟨by rw[HX.1];rfl,F2.1.bl⟩
theorem Gm.Yp {T:Gm.Tab}:∀ (l:List Int) (s:Nat),s<2 ^ 64->l.foldl (fun s c=>s &&& Gm.sset T c) s<2 ^ 64
 | [],s,h=>h
 | c::l,s,h=>Gm.Yp l _ (iC Nat.and_le_left h)
theorem Gm.abm {T:Gm.Tab}{l:List Int}{k:Nat}{x:Int}(h:l[k]?=some x):Gm.resolve T (l.take (k+1))=Gm.resolve T (l.take k) &&& Gm.sset T x:=by
 obtain⟨q1,q2⟩:=ak.1 h;unfold Gm.resolve;rw[az q1,q2,List.foldl_append];rfl
theorem Td (h:j_ w B V T)(hB:B<=w.heap.size)(A:Option Addr)(n c:Nat)(l:List Int)(hr:Rd w B 1 A n (ints l))(hn:n<=1000000) :
  Calls Tryz.prog 149 #[kF V,.slice A n c] w fun e w'=>e=.returned (.tuple #[.int .u64 ((if Gm.kE l=0 then Gm.resolve T l else 0:Nat):Int),.int .i64 (Gm.kE l)])/\Below w.heap.size w w':=by
 have F0:=jP (Fr.start h hB);have HR0:=jP (hr.alloc hB (.cells (kK V) 26));have HL:=jP (lY hr);have HO:=jP (show (Gm.order T l).2=Gm.kE l by unfold Gm.order;split<;>simp_all);obtain⟨r,hrr⟩:∃ r:Nat,(if Gm.kE l=0 then Gm.resolve T l else 0)=r:=⟨_,rfl⟩;have HRR:=jP hrr;rw[hrr];clear h hB hr hrr;obtain⟨x0,x1,x2,x3,x4,x5,x6,x7,x8,x9,x10,x11⟩:=F0.1.cells;go_enter Tryz.func149,Tryz.ntmps149
 go_wp2_with fail
 clear x0 x1 x2 x3 x4 x5 x6 x7 x8 x9 x10 x11;refine (rq F0.1.tb F0.1.hx A n c l HR0.1 hn).mono ?_;rw[HO.1];rintro e w1 ⟨A1,c1,rfl,_,hb1⟩;have F1:=jP (F0.1.step hb1);have HR1:=jP (HR0.1.below (hb1.mono F0.1.hx));clear hb1 F0 HR0;generalize (Gm.order T l).1.length=n1 at *;by_cases h0:Gm.kE l=0
 ·have HZ:=jP h0;rw[h0];clear h0;go_wp2_with fail
  go_loopw [8,22] (fun vs vi wr=>∃ k s:Nat,k<=n/\vi=.int .i64 k/\vs=.int .u64 s/\s=Gm.resolve T (l.take k)/\Below w1.heap.size w1 wr) (fun _ vi _=>n-(intOf vi).toNat)
  case atStart=>exact⟨0,18446744073709551615,by omega,rfl,rfl,rfl,ai _ _⟩
  case round=>
   obtain⟨k,s,hk,rfl,rfl,hs,hb⟩:=hrel;have F2:=jP (F1.1.step hb);have HI:=jP hb;have HS:=jP hs;have NL:=jP (show s<2 ^ 64 by rw[hs];exact Gm.Yp _ _ (by decide));clear hb hs;by_cases hlt:k<n
   ·obtain⟨b,off,x,rfl,hbB,hat,hcell⟩:=jZ (HR1.1.below (HI.1.mono F1.1.hx)) hlt;have HT:=jP (Gm.abm (T:=T) hat);have HC:=jP (OG F2.1.tb F2.1.hx x);have ha:=(pM s (Gm.sset T x) NL.1 (Gm.T_ F2.1.tb.good x)).1;rw[<-HS.1] at HT;obtain⟨x0,x1,x2,x3,x4,x5,x6,x7,x8,x9,x10,x11⟩:=F2.1.cells;clear hat;generalize Gm.sset T x=p at *;generalize s &&& p=sp at *;go_wp2_with fail
    clear x0 x1 x2 x3 x4 x5 x6 x7 x8 x9 x10 x11 hcell;refine HC.1.mono ?_;rintro e w5 ⟨rfl,hb5⟩;have kY:=jP (HI.1.trans (hb5.mono HI.1.size));clear hb5 HC F2 HI;go_wp2_with fail
    go_roundw
    case rel=>exact⟨k+1,sp,by omega,by go_num,rfl,HT.1.symm,kY.1⟩
    case measure=>simp[intOf];try omega
   ·obtain rfl:k=n:=by omega
    have HX:=jP (show s=Gm.resolve T l by rw[HS.1,aP (by have:=HL.1;omega)]);go_wp2_with fail
    go_ret2
    exact⟨by rw[<-HRR.1,aj HZ.1,<-HX.1,HZ.1];rfl,F2.1.bl⟩
 ·have hb:(Gm.kE l != 0)=true:=by simpa using h0
  have HZ:=jP h0;clear h0;go_wp2_with fail
  go_ret2
  exact⟨by rw[<-HRR.1,ah HZ.1];rfl,F1.1.bl⟩
end
theorem V8 (w:World)(B:Nat)(A:Option Addr)(n c:Nat)(l:List Int)(hr:Rd w B 1 A n (ints l))(hn:n<=1000000) :
  Calls Tryz.prog 86 #[.slice A n c] w fun e w'=>e=.returned (.bool (l.all (fun c=>decide (c<=127))))/\w=w':=by
 have HL:=jP (lY hr);have HR:=jP hr;obtain⟨nf,hnf⟩:∃ nf,l.all (fun c=>decide (c<=127))=nf:=⟨_,rfl⟩;have HN:=jP hnf;rw[hnf];clear hr hnf;go_enter Tryz.func86,Tryz.ntmps86
 go_wp2_with fail
 go_loopw [7] (fun vi wr=>∃ k:Nat,k<=n/\vi=.int .i64 k/\(l.take k).all (fun c=>decide (c<=127))=true/\w=wr) (fun vi _=>n-(intOf vi).toNat)
 case atStart=>exact⟨0,by omega,rfl,rfl,rfl⟩
 case round=>
  obtain⟨k,hk,rfl,hs,rfl⟩:=hrel;have HS:=jP hs;clear hs;by_cases hlt:k<n
  ·obtain⟨b,off,x,rfl,hbB,hat,hcell⟩:=jZ HR.1 hlt;have HT:=jP (show (l.take (k+1)).all (fun c=>decide (c<=127))=decide (x<=127) by
    obtain⟨q1,q2⟩:=ak.1 hat;rw[az q1,q2,List.all_append,HS.1];simp)
   have HM:=jP (show ¬x<=127->nf=false from fun e=>by
    rw[<-HN.1,List.all_eq_false];exact⟨x,ay hat,by simpa using e⟩)
   clear hat;by_cases hx:x<=127
   ·have HX:=jP (show (l.take (k+1)).all (fun c=>decide (c<=127))=true by rw[HT.1];simpa using hx);have hx2:¬(127<x):=by omega
    clear HM HT;go_wp2_with fail
    go_roundw
    case rel=>exact⟨k+1,by omega,by go_num,HX.1,by trivial⟩
    case measure=>simp[intOf];try omega
   ·have HX:=jP (HM.1 hx);have hx2:127<x:=by omega
    clear HM HT;go_wp2_with fail
    go_ret
    exact⟨by rw[HX.1];rfl,by trivial⟩
  ·obtain rfl:k=n:=by omega
   have HX:=jP (show nf=true by
    have h1:=HS.1;rw[aP (by have:=HL.1;omega)] at h1;rw[<-HN.1,h1])
   go_wp2_with fail
   go_ret
   exact⟨by rw[HX.1];rfl,by trivial⟩
section
variable {w:World} {B:Nat} {V:TV} {T:Gm.Tab}
theorem Y5 (h:j_ w B V T)(hB:B<=w.heap.size)(A:Option Addr)(n c:Nat)(l:List Int)(hr:Rd w B 1 A n (ints l))(hn:n<=1000000) :
  Calls Tryz.prog 90 #[kF V,.slice A n c] w fun e w'=>e=.returned (.bool (Gm.covered T l Gm.allB))/\Below w.heap.size w w':=by
 have F0:=jP (Fr.start h hB);have HR0:=jP (hr.alloc hB (.cells (kK V) 26));clear h hB hr;obtain⟨x0,x1,x2,x3,x4,x5,x6,x7,x8,x9,x10,x11⟩:=F0.1.cells;have HC:=jP (Hr F0.1.tb F0.1.hx A n c l HR0.1 hn Gm.allB (by decide));generalize Gm.covered T l Gm.allB=nf at *;go_enter Tryz.func90,Tryz.ntmps90
 go_wp2_with fail
 clear x0 x1 x2 x3 x4 x5 x6 x7 x8 x9 x10 x11;refine HC.1.mono ?_;rintro e w1 ⟨rfl,hb1⟩;have F1:=jP (F0.1.step hb1);clear hb1;go_wp2_with fail
 go_ret
 exact⟨rfl,F1.1.bl⟩
theorem VU (h:j_ w B V T)(hB:B<=w.heap.size)(A:Option Addr)(n c:Nat)(l:List Int)(hr:Rd w B 1 A n (ints l))(hn:n<=1000000) :
  Calls Tryz.prog 87 #[kF V,.slice A n c] w fun e w'=>e=.returned (.bool (decide (Gm.kE l=0)&&decide (Gm.resolve T l≠0)))/\Below w.heap.size w w':=by
 have F0:=jP (Fr.start h hB);have HR0:=jP (hr.alloc hB (.cells (kK V) 26));clear h hB hr;obtain⟨x0,x1,x2,x3,x4,x5,x6,x7,x8,x9,x10,x11⟩:=F0.1.cells;have HC:=jP (Td F0.1.tb F0.1.hx A n c l HR0.1 hn);generalize Gm.resolve T l=rs at *;generalize Gm.kE l=oe at *;obtain⟨nf,hnf⟩:∃ nf,(decide (oe=0)&&decide (rs≠0))=nf:=⟨_,rfl⟩;have HN:=jP hnf;rw[hnf];clear hnf;go_enter Tryz.func87,Tryz.ntmps87
 go_wp2_with fail
 clear x0 x1 x2 x3 x4 x5 x6 x7 x8 x9 x10 x11;refine HC.1.mono ?_;rintro e w1 ⟨rfl,hb1⟩;have F1:=jP (F0.1.step hb1);clear hb1 HC;by_cases h0:oe=0
 ·subst h0;rw[aj rfl];have HX:=jP (show ((rs:Int) != 0)=nf by
   rw[<-HN.1];by_cases e:rs=0
   ·subst e;rfl
   ·have e2:(rs:Int)≠0:=by omega
    rw[fK.2 e2];simp[e])
  go_wp2_with fail
  go_ret
  exact⟨by rw[<-HX.1];rfl,F1.1.bl⟩
 ·have hb:(oe==0)=false:=by simpa using h0
  have HX:=jP (show nf=false by rw[<-HN.1];simp[h0]);rw[ah h0];clear h0;go_wp2_with fail
  go_ret
  exact⟨by rw[HX.1];rfl,F1.1.bl⟩
end
section
variable {w:World} {B:Nat} {V:TV} {T:Gm.Tab}
theorem JR {x:World}{A:Option Addr}{n c:Nat}{l:List Int}(h:Fr w V T B x)(hr:Rd w B 1 A n (ints l))(hB:B<=w.heap.size)(hn:n<=1000000)(m:Nat)(hm:m<2 ^ 64) :
  Calls Tryz.prog 150 #[kF V,.slice A n c,.int .u64 m] x fun e x'=>e=.returned (.bool (Gm.covered T l m))/\Below x.heap.size x x'/\Fr w V T B x':=
 (Hr h.tb h.hx A n c l (hr.below (h.bl.mono hB)) hn m hm).mono fun e x' ⟨he,hb⟩=>⟨he,hb,h.step hb⟩
theorem Xc (h:j_ w B V T)(hB:B<=w.heap.size)(A:Option Addr)(n c:Nat)(l:List Int)(hr:Rd w B 1 A n (ints l))(hn:n<=1000000) :
  Calls Tryz.prog 88 #[kF V,.slice A n c] w fun e w'=>e=.returned (.bool (Gm.yR T l))/\Below w.heap.size w w':=by
 have F0:=jP (Fr.start h hB);have HRW:=jP hr;have HN:=jP (show Gm.yR T l=(Gm.covered T l 2305843009213693960||Gm.covered T l 4611686018427387912||Gm.covered T l 9223372036854775816) by
  unfold Gm.yR;simp only[List.any_cons,List.any_nil,Bool.or_false,Bool.or_assoc];rfl)
 have F1:=jP (F0.1.alloc (.cells #[.int .i64 61,.int .i64 62,.int .i64 63] 3));have hz:(w.alloc (.cells (kK V) 26)).heap.size=w.heap.size+1:=by simp
 have HX:=jP (Bk.new (w.alloc (.cells (kK V) 26)) 3 #[.int .i64 61,.int .i64 62,.int .i64 63]);rw[hz] at HX;have o0:bits .or .u64 8 2305843009213693952=2305843009213693960:=by decide
 have o1:bits .or .u64 8 4611686018427387904=4611686018427387912:=by decide
 have o2:bits .or .u64 8 9223372036854775808=9223372036854775816:=by decide
 clear h hr hz;generalize Gm.yR T l=nf at *;go_enter Tryz.func88,Tryz.ntmps88
 go_wp2_with fail
 generalize hw1:(w.alloc (.cells (kK V) 26)).alloc (.cells #[.int .i64 61,.int .i64 62,.int .i64 63] 3)=w1 at *;have HLT:=jP (show w.heap.size+1<w1.heap.size from HX.1.lt);clear hw1;go_loopw [9] (fun vi wr=>Below w1.heap.size w1 wr/\((vi=.int .i64 0)\/(vi=.int .i64 1/\Gm.covered T l 2305843009213693960=false)\/(vi=.int .i64 2/\Gm.covered T l 2305843009213693960=false/\Gm.covered T l 4611686018427387912=false)\/(vi=.int .i64 3/\Gm.covered T l 2305843009213693960=false/\Gm.covered T l 4611686018427387912=false/\Gm.covered T l 9223372036854775816=false))) (fun vi _=>3-(intOf vi).toNat)
 case atStart=>exact⟨ai _ _,.inl rfl⟩
 case round=>
  obtain⟨hb,hv⟩:=hrel;have HI:=jP hb;have F2:=jP (F1.1.step hb);have lV:=jP (HX.1.below hb HLT.1);have y0:wr.cell? ⟨w.heap.size+1,0,none⟩=some (.int .i64 61):=lV.1.cell 0;have y1:wr.cell? ⟨w.heap.size+1,1,none⟩=some (.int .i64 62):=lV.1.cell 1;have y2:wr.cell? ⟨w.heap.size+1,2,none⟩=some (.int .i64 63):=lV.1.cell 2;clear hb;rcases hv with rfl | ⟨rfl,k0⟩ | ⟨rfl,k0,k1⟩ | ⟨rfl,k0,k1,k2⟩
  ·go_wp2_with fail
   refine aI (S:=Fr w V T B) (by kernel_rfl) F2.1.drew (fun hHeld=>?_);have hf0:=F2.1.drew;refine tk 0 ?_;refine tk 1 ?_;refine tk 3 ?_;refine rc 2 fun K hK=>?_;go_simp
   refine (kL 3 8 (by decide) (by decide) _).mono ?_;rintro e w3 ⟨rfl,hw3⟩;subst hw3;try go_wp2_with fail
   refine rk hK hf0 fun hHeld=>?_;clear hK K;refine rc 4 fun K hK=>?_;go_simp
   refine (kL 61 2305843009213693952 (by decide) (by decide) _).mono ?_;rintro e w3 ⟨rfl,hw3⟩;subst hw3;try go_wp2_with fail
   refine rk hK hf0 fun hHeld=>?_;clear hK K;refine tk 5 ?_;refine rc 6 fun K hK=>?_;go_simp
   refine (JR hf0 HRW.1 hB hn 2305843009213693960 (by decide)).mono ?_;rintro e w4 ⟨rfl,hb4,hf4⟩;cases hq:Gm.covered T l 2305843009213693960 with
   | true=>
    have HV:=jP (show nf=true by rw[HN.1,hq];simp);try go_wp2_with fail
    refine rk hK hf4 fun hHeld=>?_;clear hK K;refine aJ (by kernel_rfl) ?_ _;go_wp2_with fail
    go_ret
    exact⟨by rw[HV.1];rfl,hf4.bl⟩
   | false=>
    have HQ:=jP hq;have HI4:=jP ((HI.1.drew).trans (hb4.mono HI.1.size));try go_wp2_with fail
    refine rk hK hf4 fun hHeld=>?_;clear hK K;refine aJ (by kernel_rfl) ?_ _;clear hq;go_wp2_with fail
    go_roundw
    case rel=>exact⟨HI4.1,.inr (.inl ⟨rfl,HQ.1⟩)⟩
    case measure=>simp[intOf];try omega
  ·have K0:=jP k0;clear k0;go_wp2_with fail
   refine aI (S:=Fr w V T B) (by kernel_rfl) F2.1.drew (fun hHeld=>?_);have hf0:=F2.1.drew;refine tk 0 ?_;refine tk 1 ?_;refine tk 3 ?_;refine rc 2 fun K hK=>?_;go_simp
   refine (kL 3 8 (by decide) (by decide) _).mono ?_;rintro e w3 ⟨rfl,hw3⟩;subst hw3;try go_wp2_with fail
   refine rk hK hf0 fun hHeld=>?_;clear hK K;refine rc 4 fun K hK=>?_;go_simp
   refine (kL 62 4611686018427387904 (by decide) (by decide) _).mono ?_;rintro e w3 ⟨rfl,hw3⟩;subst hw3;try go_wp2_with fail
   refine rk hK hf0 fun hHeld=>?_;clear hK K;refine tk 5 ?_;refine rc 6 fun K hK=>?_;go_simp
   refine (JR hf0 HRW.1 hB hn 4611686018427387912 (by decide)).mono ?_;rintro e w4 ⟨rfl,hb4,hf4⟩;cases hq:Gm.covered T l 4611686018427387912 with
   | true=>
    have HV:=jP (show nf=true by rw[HN.1,K0.1,hq];simp);try go_wp2_with fail
    refine rk hK hf4 fun hHeld=>?_;clear hK K;refine aJ (by kernel_rfl) ?_ _;go_wp2_with fail
    go_ret
    exact⟨by rw[HV.1];rfl,hf4.bl⟩
   | false=>
    have HQ:=jP hq;have HI4:=jP ((HI.1.drew).trans (hb4.mono HI.1.size));try go_wp2_with fail
    refine rk hK hf4 fun hHeld=>?_;clear hK K;refine aJ (by kernel_rfl) ?_ _;clear hq;go_wp2_with fail
    go_roundw
    case rel=>exact⟨HI4.1,.inr (.inr (.inl ⟨rfl,K0.1,HQ.1⟩))⟩
    case measure=>simp[intOf];try omega
  ·have K0:=jP k0;have K1:=jP k1;clear k0 k1;go_wp2_with fail
   refine aI (S:=Fr w V T B) (by kernel_rfl) F2.1.drew (fun hHeld=>?_);have hf0:=F2.1.drew;refine tk 0 ?_;refine tk 1 ?_;refine tk 3 ?_;refine rc 2 fun K hK=>?_;go_simp
   refine (kL 3 8 (by decide) (by decide) _).mono ?_;rintro e w3 ⟨rfl,hw3⟩;subst hw3;try go_wp2_with fail
   refine rk hK hf0 fun hHeld=>?_;clear hK K;refine rc 4 fun K hK=>?_;go_simp
   refine (kL 63 9223372036854775808 (by decide) (by decide) _).mono ?_;rintro e w3 ⟨rfl,hw3⟩;subst hw3;try go_wp2_with fail
   refine rk hK hf0 fun hHeld=>?_;clear hK K;refine tk 5 ?_;refine rc 6 fun K hK=>?_;go_simp
   refine (JR hf0 HRW.1 hB hn 9223372036854775816 (by decide)).mono ?_;rintro e w4 ⟨rfl,hb4,hf4⟩;cases hq:Gm.covered T l 9223372036854775816 with
   | true=>
    have HV:=jP (show nf=true by rw[HN.1,K0.1,K1.1,hq];simp);try go_wp2_with fail
    refine rk hK hf4 fun hHeld=>?_;clear hK K;refine aJ (by kernel_rfl) ?_ _;go_wp2_with fail
    go_ret
    exact⟨by rw[HV.1];rfl,hf4.bl⟩
   | false=>
    have HQ:=jP hq;have HI4:=jP ((HI.1.drew).trans (hb4.mono HI.1.size));try go_wp2_with fail
    refine rk hK hf4 fun hHeld=>?_;clear hK K;refine aJ (by kernel_rfl) ?_ _;clear hq;go_wp2_with fail
    go_roundw
    case rel=>exact⟨HI4.1,.inr (.inr (.inr ⟨rfl,K0.1,K1.1,HQ.1⟩))⟩
    case measure=>simp[intOf];try omega
  ·have HV:=jP (show nf=false by rw[HN.1,k0,k1,k2];rfl);clear k0 k1 k2;go_wp2_with fail
   go_ret
   exact⟨by rw[HV.1];rfl,F2.1.bl⟩
end
def Gm.IG (T:Gm.Tab)(l:List Int)(n:Nat):Bool:=(List.range n).any (fun i=>decide (i+3≠4/\i+3≠5)&&Gm.covered T l (Gm.bits [3,((i+3:Nat):Int)]))
theorem Gm.mod_succ (T:Gm.Tab)(l:List Int)(n:Nat):Gm.IG T l (n+1)=(Gm.IG T l n||(decide (n+3≠4/\n+3≠5)&&Gm.covered T l (Gm.bits [3,((n+3:Nat):Int)]))):=by
 unfold Gm.IG;rw[List.range_succ,jL];simp
theorem Gm.abC (T:Gm.Tab)(l:List Int){k:Nat}(h:3<=k)(hk:k<61)(h4:k≠4)(h5:k≠5)(hc:Gm.covered T l (8 ||| 2 ^ k)=true):Gm.uY T l=true:=by
 unfold Gm.uY;rw[dP];refine⟨k-3,List.mem_range.2 (by omega),?_⟩;rw[show k-3+3=k by omega,bT ⟨h4,h5⟩,je];have:Gm.bits [3,(k:Int)]=8 ||| 2 ^ k:=by simp[Gm.bits]
 rw[this];exact hc
section
variable {w:World} {B:Nat} {V:TV} {T:Gm.Tab}
theorem PG (h:j_ w B V T)(hB:B<=w.heap.size)(A:Option Addr)(n c:Nat)(l:List Int)(hr:Rd w B 1 A n (ints l))(hn:n<=1000000) :
  Calls Tryz.prog 89 #[kF V,.slice A n c] w fun e w'=>e=.returned (.bool (Gm.uY T l))/\Below w.heap.size w w':=by
 have F0:=jP (Fr.start h hB);have HRW:=jP hr;clear h hr;obtain⟨nf,hnf⟩:∃ nf,Gm.uY T l=nf:=⟨_,rfl⟩;have HN:=jP hnf;rw[hnf];clear hnf;go_enter Tryz.func89,Tryz.ntmps89
 go_wp2_with fail
 generalize hw1:w.alloc (.cells (kK V) 26)=w1 at *;clear hw1;go_loopw [5] (fun vi wr=>∃ k:Nat,3<=k/\k<=61/\vi=.int .i64 k/\Gm.IG T l (k-3)=false/\Below w1.heap.size w1 wr) (fun vi _=>61-(intOf vi).toNat)
 case atStart=>exact⟨3,by omega,by omega,rfl,rfl,ai _ _⟩
 case round=>
  obtain⟨k,hk3,ao9,rfl,hs,hb⟩:=hrel;have F2:=jP (F0.1.step hb);have HI:=jP hb;have HS:=jP hs;clear hb hs;by_cases hlt:k<61
  ·have hle:(k:Int)<=60:=by omega
   by_cases hk:k=4
   ·have HQ:=jP (show Gm.IG T l (k+1-3)=false by rw[show k+1-3=k-3+1 by omega,Gm.mod_succ,HS.1,show (k-3)+3=k by omega];simp[hk]);have HI4:=jP HI.1.drew;subst hk;clear hlt HS;have e4:(((4:Nat):Int))=4:=rfl;go_wp2_with fail
    refine aI (S:=Fr w V T B) (by kernel_rfl) F2.1.drew (fun hHeld=>?_);refine tk 0 ?_;refine tk 1 ?_;refine tk 2 ?_;refine tu 3 ?_;refine tu 4 ?_;refine tk 5 ?_;refine tk 6 ?_;refine tu 7 ?_;refine tu 8 ?_;refine tu 9 ?_;refine tu 10 ?_;refine tu 11 ?_;refine tu 12 ?_;refine tu 13 ?_;refine tk 14 ?_;refine aJ (by kernel_rfl) ?_ _;go_wp2_with fail
    go_roundw
    case rel=>exact⟨4+1,by omega,by omega,by go_num,HQ.1,HI4.1⟩
    case measure=>simp[intOf]
   ·by_cases hk5:k=5
    ·have HQ:=jP (show Gm.IG T l (k+1-3)=false by rw[show k+1-3=k-3+1 by omega,Gm.mod_succ,HS.1,show (k-3)+3=k by omega];simp[hk5]);have HI4:=jP HI.1.drew;subst hk5;clear hlt HS;have e4:(((5:Nat):Int))=5:=rfl;go_wp2_with fail
     refine aI (S:=Fr w V T B) (by kernel_rfl) F2.1.drew (fun hHeld=>?_);refine tk 0 ?_;refine tk 1 ?_;refine tk 2 ?_;refine tk 3 ?_;refine tk 4 ?_;refine tk 5 ?_;refine tk 6 ?_;refine tu 7 ?_;refine tu 8 ?_;refine tu 9 ?_;refine tu 10 ?_;refine tu 11 ?_;refine tu 12 ?_;refine tu 13 ?_;refine tk 14 ?_;refine aJ (by kernel_rfl) ?_ _;go_wp2_with fail
     go_roundw
     case rel=>exact⟨5+1,by omega,by omega,by go_num,HQ.1,HI4.1⟩
     case measure=>simp[intOf]
    ·have b4:((k:Int) != 4)=true:=by rw[fK];omega
     have b5:((k:Int) != 5)=true:=by rw[fK];omega
     obtain⟨p,hp⟩:∃ p,p=2 ^ k:=⟨_,rfl⟩;have RG:=jP (show p<2 ^ 64 by rw[hp];exact Nat.pow_lt_pow_right (by decide) (by omega));have pV:=jP (fun W=>kL k p (by omega) hp W);have hor:=(pM 8 p (by decide) RG.1).2;have vM:=jP (show 8 ||| p<2 ^ 64 from bI (by decide) RG.1);have HMT:=jP (show Gm.covered T l (8 ||| p)=true->nf=true from fun e=>by rw[<-HN.1];exact Gm.abC T l hk3 hlt hk hk5 (by rw[<-hp];exact e));have HMF:=jP (show Gm.covered T l (8 ||| p)=false->Gm.IG T l (k+1-3)=false from fun e=>by
      have e2:Gm.bits [3,(k:Int)]=8 ||| p:=by rw[hp];simp[Gm.bits]
      rw[show k+1-3=k-3+1 by omega,Gm.mod_succ,HS.1,show (k-3)+3=k by omega,e2,e];simp)
     clear hp hk hk5;generalize 8 ||| p=q at *;have hor2:bits .or .u64 8 (p:Int)=(q:Int):=hor;clear hor;have hf0:=F2.1.drew;go_wp2_with fail
     refine aI (S:=Fr w V T B) (by kernel_rfl) hf0 (fun hHeld=>?_);refine tk 0 ?_;refine tk 1 ?_;refine tk 2 ?_;refine tk 3 ?_;refine tk 4 ?_;refine tk 5 ?_;refine tk 6 ?_;refine tk 7 ?_;refine tk 8 ?_;refine tk 10 ?_;refine rc 9 fun K hK=>?_;go_simp
     refine (kL 3 8 (by decide) (by decide) _).mono ?_;rintro e w3 ⟨rfl,hw3⟩;subst hw3;try go_wp2_with fail
     refine rk hK hf0 fun hHeld=>?_;clear hK K;refine rc 11 fun K hK=>?_;go_simp
     refine (pV.1 _).mono ?_;rintro e w3 ⟨rfl,hw3⟩;subst hw3;try go_wp2_with fail
     refine rk hK hf0 fun hHeld=>?_;clear hK K;refine tk 12 ?_;refine rc 13 fun K hK=>?_;go_simp
     refine (JR hf0 HRW.1 hB hn q vM.1).mono ?_;rintro e w4 ⟨rfl,hb4,hf4⟩;have HI4:=jP ((HI.1.drew).trans (hb4.mono HI.1.size));cases hq:Gm.covered T l q with
     | true=>
      have HV:=jP (HMT.1 hq);clear hq;try go_wp2_with fail
      refine rk hK hf4 fun hHeld=>?_;clear hK K;refine tk 14 ?_;refine aJ (by kernel_rfl) ?_ _;go_wp2_with fail
      go_ret
      exact⟨by rw[HV.1];rfl,hf4.bl⟩
     | false=>
      have HQ:=jP (HMF.1 hq);clear hq;try go_wp2_with fail
      refine rk hK hf4 fun hHeld=>?_;clear hK K;refine tk 14 ?_;refine aJ (by kernel_rfl) ?_ _;go_wp2_with fail
      go_roundw
      case rel=>exact⟨k+1,by omega,by omega,by go_num,HQ.1,HI4.1⟩
      case measure=>simp[intOf];try omega
  ·obtain rfl:k=61:=by omega
   have HV:=jP (show nf=false by rw[<-HN.1];exact HS.1);go_wp2_with fail
   go_ret
   exact⟨by rw[HV.1];rfl,F2.1.bl⟩
end
end Go.Proofs.YtkachcflifhgiaaGreatDoor
