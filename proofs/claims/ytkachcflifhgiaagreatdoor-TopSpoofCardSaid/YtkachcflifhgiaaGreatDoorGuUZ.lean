/-  -/
import Derived.Test.YtkachcflifhgiaaGreatDoorM20
set_option linter.unusedVariables false
set_option maxRecDepth 100000
set_option maxHeartbeats 16000000
namespace Go.Proofs.YtkachcflifhgiaaGreatDoor
open Go Go.RowKit Go.Shelf Go.Proofs
section
variable {w:World} {B:Nat} {V:TV} {T:Gm.Tab}
theorem YX (h:j_ w B V T)(hB:B<=w.heap.size)(A:Option Addr)(n c:Nat)(l:List Int)(hr:Rd w B 1 A n (ints l))(hn:n<=1000000) :
  Calls Tryz.prog 39 #[kF V,.slice A n c] w fun e w'=>e=.returned (.tuple #[.int .i64 (Gm.level T l).1,.int .i64 (Gm.level T l).2])/\Below w.heap.size w w':=by
 have F0:=jP (Fr.start h hB);have HR0:=jP (hr.alloc hB (.cells (kK V) 26));have HO:=jP (show (Gm.order T l).2=Gm.kE l by unfold Gm.order;split<;>simp_all);have tV:=jP (show Gm.level T l=if Gm.kE l≠0 then (0,Gm.kE l) else if l.all (fun c=>decide (c<=127))=true then (1,0) else if decide (Gm.resolve T l≠0)=true then (2,0) else if Gm.yR T l=true then (3,0) else if Gm.uY T l=true then (4,0) else if Gm.covered T l Gm.allB=true then (5,0) else (6,0) by
  unfold Gm.level;simp only[dG])
 clear h hB hr;generalize Gm.level T l=nf at *;obtain⟨x0,x1,x2,x3,x4,x5,x6,x7,x8,x9,x10,x11⟩:=F0.1.cells;go_enter Tryz.func39,Tryz.ntmps39
 go_wp2_with fail
 clear x0 x1 x2 x3 x4 x5 x6 x7 x8 x9 x10 x11;refine (rq F0.1.tb F0.1.hx A n c l HR0.1 hn).mono ?_;rw[HO.1];rintro e w1 ⟨A1,c1,rfl,_,hb1⟩;have F1:=jP (F0.1.step hb1);have HR1:=jP (HR0.1.below (hb1.mono F0.1.hx));clear hb1 F0 HR0 HO;generalize (Gm.order T l).1.length=n1 at *;by_cases h0:Gm.kE l=0
 ·obtain⟨sa,has⟩:∃ b,l.all (fun c=>decide (c<=127))=b:=⟨_,rfl⟩;obtain⟨si,hsi⟩:∃ b,decide (Gm.resolve T l≠0)=b:=⟨_,rfl⟩;obtain⟨hi,hhi⟩:∃ b,Gm.yR T l=b:=⟨_,rfl⟩;obtain⟨mo,hmo⟩:∃ b,Gm.uY T l=b:=⟨_,rfl⟩;obtain⟨kn,hkn⟩:∃ b,Gm.covered T l Gm.allB=b:=⟨_,rfl⟩;have HN:=jP (show nf=if sa=true then (1,0) else if si=true then (2,0) else if hi=true then (3,0) else if mo=true then (4,0) else if kn=true then (5,0) else (6,0) by
   rw[tV.1,ah (by simpa using h0),has,hsi,hhi,hmo,hkn])
  have Esa:=jP has;have Ehi:=jP hhi;have Emo:=jP hmo;have Ekn:=jP hkn;have Esi:=jP (show (decide (Gm.kE l=0)&&decide (Gm.resolve T l≠0))=si by rw[bT h0,je];exact hsi);rw[h0];clear h0 tV has hsi hhi hmo hkn;have HC:=jP (fun W (hR:Rd W B 1 A n (ints l))=>V8 W B A n c l hR hn);rw[Esa.1] at HC;go_wp2_with fail
  refine (HC.1 _ HR1.1).mono ?_;rintro e w9 ⟨rfl,qP⟩;subst qP;clear HC;cases sa with
  | true=>
   have HV:=jP (show nf=(1,0) by rw[HN.1];simp);go_wp2_with fail
   go_ret2
   rw[HV.1];exact⟨rfl,F1.1.bl⟩
  | false=>
   have HC:=jP (VU F1.1.tb F1.1.hx A n c l HR1.1 hn);rw[Esi.1] at HC;obtain⟨x0,x1,x2,x3,x4,x5,x6,x7,x8,x9,x10,x11⟩:=F1.1.cells;go_wp2_with fail
   clear x0 x1 x2 x3 x4 x5 x6 x7 x8 x9 x10 x11;refine HC.1.mono ?_;rintro e w2 ⟨rfl,hb⟩;have F2:=jP (F1.1.step hb);have HR2:=jP (HR1.1.below (hb.mono F1.1.hx));clear hb HC;cases si with
   | true=>
    have HV:=jP (show nf=(2,0) by rw[HN.1];simp);go_wp2_with fail
    go_ret2
    rw[HV.1];exact⟨rfl,F2.1.bl⟩
   | false=>
    have HC:=jP (Xc F2.1.tb F2.1.hx A n c l HR2.1 hn);rw[Ehi.1] at HC;obtain⟨x0,x1,x2,x3,x4,x5,x6,x7,x8,x9,x10,x11⟩:=F2.1.cells;go_wp2_with fail
    clear x0 x1 x2 x3 x4 x5 x6 x7 x8 x9 x10 x11;refine HC.1.mono ?_;rintro e w3 ⟨rfl,hb⟩;have F3:=jP (F2.1.step hb);have HR3:=jP (HR2.1.below (hb.mono F2.1.hx));clear hb HC;cases hi with
    | true=>
     have HV:=jP (show nf=(3,0) by rw[HN.1];simp);go_wp2_with fail
     go_ret2
     rw[HV.1];exact⟨rfl,F3.1.bl⟩
    | false=>
     have HC:=jP (PG F3.1.tb F3.1.hx A n c l HR3.1 hn);rw[Emo.1] at HC;obtain⟨x0,x1,x2,x3,x4,x5,x6,x7,x8,x9,x10,x11⟩:=F3.1.cells;go_wp2_with fail
     clear x0 x1 x2 x3 x4 x5 x6 x7 x8 x9 x10 x11;refine HC.1.mono ?_;rintro e w4 ⟨rfl,hb⟩;have F4:=jP (F3.1.step hb);have HR4:=jP (HR3.1.below (hb.mono F3.1.hx));clear hb HC;cases mo with
     | true=>
      have HV:=jP (show nf=(4,0) by rw[HN.1];simp);go_wp2_with fail
      go_ret2
      rw[HV.1];exact⟨rfl,F4.1.bl⟩
     | false=>
      have HC:=jP (Y5 F4.1.tb F4.1.hx A n c l HR4.1 hn);rw[Ekn.1] at HC;obtain⟨x0,x1,x2,x3,x4,x5,x6,x7,x8,x9,x10,x11⟩:=F4.1.cells;go_wp2_with fail
      clear x0 x1 x2 x3 x4 x5 x6 x7 x8 x9 x10 x11;refine HC.1.mono ?_;rintro e w5 ⟨rfl,hb⟩;have F5:=jP (F4.1.step hb);have v_:=jP (HR4.1.below (hb.mono F4.1.hx));clear hb HC;cases kn with
      | true=>
       have HV:=jP (show nf=(5,0) by rw[HN.1];simp);go_wp2_with fail
       go_ret2
       rw[HV.1];exact⟨rfl,F5.1.bl⟩
      | false=>
       have HV:=jP (show nf=(6,0) by rw[HN.1];simp);go_wp2_with fail
       go_ret2
       rw[HV.1];exact⟨rfl,F5.1.bl⟩
 ·have HV:=jP (show nf=(0,Gm.kE l) by rw[tV.1,aj h0]);have hb:(Gm.kE l != 0)=true:=by simpa using h0
  clear tV h0;go_wp2_with fail
  go_ret2
  rw[HV.1];exact⟨rfl,F1.1.bl⟩
end
end Go.Proofs.YtkachcflifhgiaaGreatDoor
