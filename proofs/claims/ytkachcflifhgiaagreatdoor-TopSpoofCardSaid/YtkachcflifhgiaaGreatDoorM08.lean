/-   -/
import Derived.Test.YtkachcflifhgiaaGreatDoorM06
import Derived.Deep.RegionHeld3
import Derived.Deep.CutBlock
import Derived.Deep.LoopGhost
set_option linter.unusedVariables false
set_option maxRecDepth 100000
set_option maxHeartbeats 16000000
namespace Go.Proofs.YtkachcflifhgiaaGreatDoor
open Go Go.RowKit
theorem xh (s:ByteArray):s.toList=lst s:=eY s
def Df (L:List UInt8):Value:=.tuple #[.string (str (Rq.qA L).1),.bool (Rq.qA L).2]
theorem DF {L:List UInt8}(hq:L≠[34,34])(h:Rq.o8 L=none):Df L=.tuple #[.string ⟨#[]⟩,.bool false]:=by
 unfold Df Rq.qA;rw[ah hq,h];rfl
theorem aaV {L out:List UInt8}(hq:L≠[34,34])(h:Rq.o8 L=some out):Df L=.tuple #[.string (str out),.bool (decide (0<out.length))]:=by
 unfold Df Rq.qA;rw[ah hq,h];cases out<;>rfl
theorem UD {o:Option (List UInt8)}(out:List UInt8)(b:UInt8):(o.map (b::·)).map (out++·)=o.map ((out++[b])++·):=by cases o<;>simp
theorem aeA (x y:UInt8)(hx0:0<=Rq.hx x)(hy0:0<=Rq.hx y):((Rq.two x y).toNat:Int)=Rq.hx x*16+Rq.hx y:=by
 have h1:=(Rq.Oi x).2;have h2:=(Rq.Oi y).2;unfold Rq.two;rw[UInt8.toNat_ofNat'];omega
theorem agR (a b:Int)(ha:0<=a)(ha1:a<=15)(hb:0<=b)(hb1:b<=15):bits BinOp.or IntKind.i64 (a*16) b=a*16+b/\IntKind.u8.wrap (a*16+b)=a*16+b:=by
 have:∀ x y:Fin 16,bits BinOp.or IntKind.i64 ((x.val:Int)*16) (y.val:Int)=(x.val:Int)*16+(y.val:Int)/\IntKind.u8.wrap ((x.val:Int)*16+(y.val:Int))=(x.val:Int)*16+(y.val:Int):=by decide +kernel
 have h:=this ⟨a.toNat,by omega⟩ ⟨b.toNat,by omega⟩;simp only[Int.toNat_of_nonneg ha,Int.toNat_of_nonneg hb] at h;exact h
theorem N9 {w:World}{ops:Array Oper}{o:Oper}{a:Act}{K:Act->World->Prop}{Q:Exit->Act->World->Prop}{E:Prop}(hgd:o.guard=none)(s x:Operand)
  (ho:o.op=.call { callee:=.builtin .append,args:=#[s,x],argTypes:=#[177,177] })
  {base:Nat} {v:Value} {n:Nat} {xs:List UInt8} (hs:a.eval s=v) (hown:w.ownsRow base 5 1 v n (mW xs))
  {B:Nat} {A:Option Addr} {m c:Nat} {ys:List UInt8} (hx:a.eval x=.slice A m c) (hr:Rd w B 1 A m (mW ys))
  (hlen:n+m<=140737488355328) (hbase:base<=w.heap.size)
  (h:∀ A' c' w',w'.ownsRow base 5 1 (.slice A' (n+m) c') (n+m) (mW (xs++ys))->w.grownBy w' v.ownBlock->K (a.put o.dst (.slice A' (n+m) c')) w') :
  if Region.wanted o (yielded ops a.tmps)=true then Oper.wp Tryz.prog o a w K Q else E:=by
 have hw:Region.wanted o (yielded ops a.tmps)=true:=by simp[Region.wanted,hgd]
 rw[aj hw];obtain⟨i0,hi,hz0,hz1,hz2⟩:=dR Ll;obtain⟨v',w',hrun,h2,h3,h4⟩:=wU (P:=Tryz.prog) base 177 o.type 5 i0 (.int .u8 0) 1 1 dI hi hz0 hz1 hz2 rfl (by decide) v n (mW xs) hown B A m c (mW ys) hr (Ve ys)
  (by unfold maxLen;omega) (by omega) hbase
 obtain⟨A',c',rfl⟩:=o7 h2;rw[<-Ef] at h2;unfold Oper.wp execOp;simp only[ho,resolve,invoke,builtin,jM,Sem.run_pure,jy,jE,fF,List.map_nil,hs,hx,hrun];exact h A' c' w' h2 h3
theorem SE (s:ByteArray)(hs:s.size<=140737488355328)(w:World):Calls Tryz.prog 64 #[.string s] w fun e w'=>e=.returned (Df (lst s))/\Below w.heap.size w w':=by
 by_cases hq:s=⟨#[34,34]⟩
 ·subst hq;go_enter Tryz.func64,Tryz.ntmps64
  go_wp2
  go_ret2
  exact⟨rfl,ai _ _⟩
 have hq2:lst s≠[34,34]:=by
  intro e;apply hq;rw[<-uF s,e];rfl
 have AQ:(s.toList==[34,34])=false:=by rw[xh,aX];exact hq2
 have HQ:=jP hq2;clear hq hq2;go_enter Tryz.func64,Tryz.ntmps64
 go_wp2_with fail
 go_loopw [4,5] (fun vo vi wr=>∃ (k:Nat) (out:List UInt8) (A:Option Addr) (c:Nat),k<=s.size/\vi=.int .i64 k/\vo=.slice A out.length c/\wr.ownsRow w.heap.size 5 1 (.slice A out.length c) out.length (mW out)/\Below w.heap.size w wr /\
   out.length<=k/\Rq.o8 (lst s)=(Rq.o8 ((lst s).drop k)).map (out++·)) (fun _ vi _=>s.size-(intOf vi).toNat)
 case atStart=>exact⟨0,[],none,0,by omega,rfl,rfl,aH _ _ _ _,ai _ _,by simp,by rw[List.drop_zero];cases Rq.o8 (lst s)<;>simp⟩
 case round=>
  obtain⟨k,out,A,c,hk,rfl,rfl,ho,hb,hlen,hun⟩:=hrel;have HO:=jP ho;have HB:=jP hb;have HU:=jP hun;have hsw:=hb.size;clear ho hb hun;by_cases hlt:k<s.size
  ·have hdr:=x_ s k hlt;have HDR:=jP hdr;clear hdr;go_wp2_with fail
   refine (MJ s[k] _).mono ?_;rintro e w1 ⟨rfl,rfl⟩;cases hp:Rq.pl s[k]
   ·by_cases h37:s[k]=37
    ·have alJ:(s[k].toNat:Int)=37:=by rw[h37];rfl
     by_cases hk2:k+2<s.size
     ·have hd1:=x_ s (k+1) (by omega);have hd2:=x_ s (k+2) (by omega);have HD1:=jP hd1;have HD2:=jP hd2;clear hd1 hd2;by_cases hx0:0<=Rq.hx s[k+1]
      ·by_cases hy0:0<=Rq.hx s[k+2]
       ·have E8:Rq.o8 (lst s)=(Rq.o8 ((lst s).drop (k+3))).map ((out++[Rq.two s[k+1] s[k+2]])++·):=by
         rw[HU.1,HDR.1,h37,HD1.1,HD2.1,Rq.TR _ _ _ hx0 hy0,UD]
        have Bl:=jP E8;have htv:=aeA s[k+1] s[k+2] hx0 hy0;have ha1:=(Rq.Oi s[k+1]).2;have hb1:=(Rq.Oi s[k+2]).2;have HX:=jP (Dk s[k+1]);have HY:=jP (Dk s[k+2]);generalize hxx:Rq.hx s[k+1]=a at *;generalize hyy:Rq.hx s[k+2]=b at *;clear E8 hp h37 hxx hyy;go_wp2_with fail
        refine (HX.1 _).mono ?_;rintro e w2 ⟨rfl,rfl⟩;go_wp2_with fail
        refine (HY.1 _).mono ?_;rintro e w3 ⟨rfl,rfl⟩;go_wp2_with fail
        obtain⟨t3,t4⟩:=agR a b hx0 ha1 hy0 hb1;have t1:IntKind.i64.wrap ((k:Int)+1)=(k:Int)+1:=aW _ (by omega);have t2:IntKind.i64.wrap ((k:Int)+2)=(k:Int)+2:=aW _ (by omega);have t5:IntKind.i64.wrap (a*16)=a*16:=aW _ (by omega);have n2:((k:Int)+2).toNat=k+2:=by omega
        refine wp_region_any (by kernel_rfl) ?_;change wpAny _ _ _ _ 17 #[false,false,false,false,false,false,false,false,false,false,false,false,false,false,false,false,false] _ (World.drew _);refine bV (i:=0) (v:=.slice A out.length c) rfl (by kernel_rfl) (by kernel_rfl) (by kernel_rfl) (fun _ _ _ h=>h) (Or.inl ⟨by rfl,fun w=>?_⟩) ?_
        ·go_simp
        try simp only[Act.put,ax,aF]
        refine bV (i:=1) (v:=.string s) rfl (by kernel_rfl) (by kernel_rfl) (by kernel_rfl) (fun _ _ _ h=>h) (Or.inl ⟨by rfl,fun w=>?_⟩) ?_
        ·go_simp
        try simp only[Act.put,ax,aF,aC]
        refine bV (i:=2) (v:=.int .i64 k) rfl (by kernel_rfl) (by kernel_rfl) (by kernel_rfl) (fun _ _ _ h=>h) (Or.inl ⟨by rfl,fun w=>?_⟩) ?_
        ·go_simp
        try simp only[Act.put,ax,aF,aC]
        refine bV (i:=3) (v:=.int .i64 (k+1)) rfl (by kernel_rfl) (by kernel_rfl) (by kernel_rfl) (fun _ _ _ h=>h) (Or.inl ⟨by rfl,fun w=>?_⟩) ?_
        ·go_simp
        try simp only[Act.put,ax,aF,aC]
        refine bV (i:=4) (v:=.int .u8 (s[k+1].toNat:Int)) rfl (by kernel_rfl) (by kernel_rfl) (by kernel_rfl) (fun _ _ _ h=>h) (Or.inl ⟨by rfl,fun w=>?_⟩) ?_
        ·go_simp
        try simp only[Act.put,ax,aF,aC]
        refine bV (i:=7) (v:=.string s) rfl (by kernel_rfl) (by kernel_rfl) (by kernel_rfl) (fun _ _ _ h=>h) (Or.inl ⟨by rfl,fun w=>?_⟩) ?_
        ·go_simp
        try simp only[Act.put,ax,aF,aC]
        refine bV (i:=8) (v:=.int .i64 k) rfl (by kernel_rfl) (by kernel_rfl) (by kernel_rfl) (fun _ _ _ h=>h) (Or.inl ⟨by rfl,fun w=>?_⟩) ?_
        ·go_simp
        try simp only[Act.put,ax,aF,aC]
        refine bV (i:=9) (v:=.int .i64 (k+2)) rfl (by kernel_rfl) (by kernel_rfl) (by kernel_rfl) (fun _ _ _ h=>h) (Or.inl ⟨by rfl,fun w=>?_⟩) ?_
        ·go_simp
        try simp only[Act.put,ax,aF,aC]
        refine bV (i:=10) (v:=.int .u8 (s[k+2].toNat:Int)) rfl (by kernel_rfl) (by kernel_rfl) (by kernel_rfl) (fun _ _ _ h=>h) (Or.inl ⟨by rfl,fun w=>?_⟩) ?_
        ·first | (go_simp;done) | (go_simp;simp only[n2])
        try simp only[Act.put,ax,aF,aC]
        refine dM (rs:=[5]) (by kernel_rfl) (by simp) ?_;refine cO rfl (fun K hK=>?_) dL;go_simp
        refine (HX.1 _).mono ?_;rintro e w9 ⟨rfl,rfl⟩;refine hK _ _ ?_;clear hK K;try simp only[ax,aF,aC]
        refine bV (i:=6) (v:=.int .i64 (a*16)) rfl (by kernel_rfl) (by kernel_rfl) (by kernel_rfl) (fun _ _ _ h=>h) (Or.inl ⟨by rfl,fun w=>?_⟩) ?_
        ·go_simp
        try simp only[Act.put,ax,aF,aC]
        refine dM (rs:=[11]) (by kernel_rfl) (by simp) ?_;refine cO rfl (fun K hK=>?_) dL;go_simp
        refine (HY.1 _).mono ?_;rintro e w9 ⟨rfl,rfl⟩;refine hK _ _ ?_;clear hK K;try simp only[ax,aF,aC]
        refine bV (i:=12) (v:=.int .i64 (a*16+b)) rfl (by kernel_rfl) (by kernel_rfl) (by kernel_rfl) (fun _ _ _ h=>h) (Or.inl ⟨by rfl,fun w=>?_⟩) ?_
        ·go_simp
        try simp only[Act.put,ax,aF,aC]
        refine bV (i:=13) (v:=.int .u8 (a*16+b)) rfl (by kernel_rfl) (by kernel_rfl) (by kernel_rfl) (fun _ _ _ h=>h) (Or.inl ⟨by rfl,fun w=>?_⟩) ?_
        ·go_simp
        try simp only[Act.put,ax,aF,aC]
        refine dM (rs:=[14]) (by kernel_rfl) (by simp) ?_;refine cO rfl (fun K hK=>?_) dL;go_simp
        refine hK _ _ ?_;clear hK K;try simp only[ax,aF,aC]
        refine dM (rs:=[15]) (by kernel_rfl) (by simp) ?_;refine cO rfl (fun K hK=>?_) dL;refine N9 (by rfl) (.tmp 53) (.tmp 67) (by rfl) (base:=w.heap.size) (by rfl) (HO.1.drew.alloc _) (by rfl) (zU (z:=w3.heap.size) rfl htv) (by omega) (by simp;omega) ?_;intro A4 c4 w4 kQ hg4;have HP:=jP (own_below HO.1.drew HB.1.drew _ hg4 hsw);have lC:=jP kQ;clear kQ hg4;refine hK _ _ ?_;clear hK K;try simp only[Act.put,ax,aF,aC]
        refine dM (rs:=[16]) (by kernel_rfl) (by simp) ?_;refine cO rfl (fun K hK=>?_) dL;go_simp
        refine hK _ _ ?_;clear hK K;try simp only[ax,aF,aC]
        refine wpAny_done (by kernel_rfl) ?_ _;go_step
        go_wp2
        go_roundw
        case rel=>exact⟨k+3,out++[Rq.two s[k+1] s[k+2]],A4,c4,by omega,by go_num,by simp,by simpa using lC.1,HP.1,by simp;omega,Bl.1⟩
        case measure=>simp[intOf];omega
       ·have hbad:Rq.o8 (lst s)=none:=by
         rw[HU.1,HDR.1,h37,HD1.1,HD2.1,Rq.TS _ _ _ (fun e=>hy0 e.2)];rfl
        have HF:=jP (DF HQ.1 hbad);have HX:=jP (Dk s[k+1]);have HY:=jP (Dk s[k+2]);generalize hxx:Rq.hx s[k+1]=a at *;generalize hyy:Rq.hx s[k+2]=b at *;clear hbad hp h37 hxx hyy;go_wp2_with fail
        refine (HX.1 _).mono ?_;rintro e w2 ⟨rfl,rfl⟩;go_wp2_with fail
        refine (HY.1 _).mono ?_;rintro e w3 ⟨rfl,rfl⟩;go_wp2
        go_ret2
        exact⟨by rw[HF.1];rfl,HB.1⟩
      ·have hbad:Rq.o8 (lst s)=none:=by
        rw[HU.1,HDR.1,h37,HD1.1,HD2.1,Rq.TS _ _ _ (fun e=>hx0 e.1)];rfl
       have HF:=jP (DF HQ.1 hbad);have HX:=jP (Dk s[k+1]);generalize hxx:Rq.hx s[k+1]=a at *;clear hbad hp h37 hxx;go_wp2_with fail
       refine (HX.1 _).mono ?_;rintro e w2 ⟨rfl,rfl⟩;go_wp2
       go_ret2
       exact⟨by rw[HF.1];rfl,HB.1⟩
     ·have hbad:Rq.o8 (lst s)=none:=by
       rw[HU.1,HDR.1,h37,Rq.XV _ (by rw[bF,jV];omega)];rfl
      have HF:=jP (DF HQ.1 hbad);clear hbad hp h37;go_wp2
      go_ret2
      exact⟨by rw[HF.1];rfl,HB.1⟩
    ·have hbad:Rq.o8 (lst s)=none:=by
      rw[HU.1,HDR.1,Rq.aez _ hp h37];rfl
     have HF:=jP (DF HQ.1 hbad);have alJ:((s[k].toNat:Int)==37)=false:=by
      rw[aX];intro e;apply h37;apply UInt8.toNat_inj.1;show (s[k]).toNat=37;omega
     clear hbad hp h37;go_wp2
     go_ret2
     exact⟨by rw[HF.1];rfl,HB.1⟩
   ·have E8:Rq.o8 (lst s)=(Rq.o8 ((lst s).drop (k+1))).map ((out++[s[k]])++·):=by
     rw[HU.1,HDR.1,Rq.XW _ hp,UD]
    have Bl:=jP E8;clear E8 hp;have hbi:(s[k].toNat:Int)=(s[k].toNat:Int):=rfl;go_wp2_with (at_builtin;refine rG (by rfl) _ _ rfl (base:=w.heap.size) rfl (HO.1.alloc _) rfl (yM (z:=w1.heap.size) rfl s[k]) (by omega) (by simp<;>omega) ?_)
    intro A4 c4 w4 kQ hg4 hc4;have HP:=jP (own_below HO.1 HB.1 _ hg4 hsw);have lC:=jP kQ;clear kQ hg4 hc4;go_wp2
    go_roundw
    case rel=>exact⟨k+1,out++[s[k]],A4,c4,by omega,by go_num,by simp,by simpa using lC.1,HP.1,by simp;omega,Bl.1⟩
    case measure=>simp[intOf];omega
  ·have hd:(lst s).drop k=[]:=eU (by rw[jV];omega);have E8:Rq.o8 (lst s)=some out:=by rw[HU.1,hd,Rq.KI];simp
   have HF:=jP (aaV HQ.1 E8);have hcv:=Bg HO.1;clear hd E8;go_wp2
   go_ret2
   exact⟨by rw[HF.1];rfl,HB.1⟩
theorem OD {w:World}{ops:Array Oper}{o:Oper}{a:Act}{K:Act->World->Prop}{Q:Exit->Act->World->Prop}{E:Prop}(hgd:o.guard=none)(s x:Operand)
  (ho:o.op=.call { callee:=.builtin .append,args:=#[s,x],argTypes:=#[46,46] })
  {base:Nat} {v:Value} {n:Nat} {xs:List ByteArray} (hs:a.eval s=v) (hown:w.ownsRow base 9 1 v n (strs xs))
  {B:Nat} {A:Option Addr} {m c:Nat} {ys:List ByteArray} (hx:a.eval x=.slice A m c) (hr:Rd w B 1 A m (strs ys))
  (hlen:n+m<=8796093022208) (hbase:base<=w.heap.size)
  (h:∀ A' c' w',w'.ownsRow base 9 1 (.slice A' (n+m) c') (n+m) (strs (xs++ys))->w.grownBy w' v.ownBlock->K (a.put o.dst (.slice A' (n+m) c')) w') :
  if Region.wanted o (yielded ops a.tmps)=true then Oper.wp Tryz.prog o a w K Q else E:=by
 have hw:Region.wanted o (yielded ops a.tmps)=true:=by simp[Region.wanted,hgd]
 rw[aj hw];obtain⟨A',c',w',hrun,h2,h3,h4⟩:=GX o.type hown (c:=c) hr hlen hbase;unfold Oper.wp execOp;simp only[ho,resolve,invoke,builtin,jM,Sem.run_pure,jy,jE,fF,List.map_nil,hs,hx,hrun];exact h A' c' w' h2 h3
theorem acQ (L:List UInt8)(j:Nat)(b:UInt8)(h:L[j]?=some b):L.drop j=b::L.drop (j+1):=by
 obtain⟨h2,h3⟩:=ak.1 h;rw[bP h2,h3]
theorem aa3 {L:List UInt8}{j:Nat}(h:L[j]?=some 32)(hn:(32:UInt8)∉L.take j):Rq.pW L=L.take j::Rq.pW (L.drop (j+1)):=by
 conv=>lhs;rw[<-List.take_append_drop j L,acQ L j 32 h]
 rw[Rq.DL _ _ hn,Rq.L9];simp[Rq.pre]
theorem OH {L:List UInt8}(hn:(32:UInt8)∉L):Rq.pW L=[L]:=by
 have:=Rq.DL L [] hn;rw[fC] at this;rw[this];simp[Rq.pW,Rq.pre]
theorem Ya (s:ByteArray)(hs:s.size<=1000000)(w:World):Calls Tryz.prog 60 #[.string s] w (al6 9 ((Rq.pW (lst s)).map str) w):=by
 go_enter Tryz.func60,Tryz.ntmps60
 go_wp2
 go_step3
 go_wp2
 go_step3
 go_wp2
 go_loopg [0,3] s.size (fun gg vs vl wr=>∃ (nU:List UInt8) (ws:List (List UInt8)) (A:Option Addr) (c n:Nat),vs=.string (str nU)/\vl=.slice A n c/\ws.length=n/\wr.ownsRow w.heap.size 9 1 (.slice A n c) n (strs (ws.map str))/\Below w.heap.size w wr /\
   n+nU.length<=s.size/\Rq.pW (lst s)=ws++Rq.pW nU/\nU.length=gg)
 case atStart=>exact⟨lst s,[],none,0,0,by rw[uF],rfl,rfl,aH _ _ _ _,ai _ _,by rw[jV];omega,rfl,jV s⟩
 case round=>
  obtain⟨nU,ws,A,c,n,rfl,rfl,hn,ho,hb,hlen,hsp,hgg⟩:=hrel;have HGG:=jP hgg;clear hgg;have HO:=jP ho;have HB:=jP hb;have Es:=jP hsp;have HN:=jP hn;have hsw:=hb.size;have hsz:(str nU).size=nU.length:=lT nU;clear ho hb hsp hn;go_wp2_with fail
  go_loopg [0,3,7] nU.length (fun gi vs vl vj wq=>∃ j:Nat,j+gi=nU.length/\vs=.string (str nU)/\vl=.slice A n c/\vj=.int .i64 j/\(32:UInt8)∉nU.take j/\wr=wq)
  case atStart=>exact⟨0,by omega,rfl,rfl,rfl,by simp,rfl⟩
  case round=>
   obtain⟨j,hj,rfl,rfl,rfl,hno,rfl⟩:=hrel;have RQ:=jP hno;clear hno;by_cases hlt:j<nU.length
   ·have hat:=wH (str nU) j (by omega);rw[oh] at hat;by_cases h32:(str nU)[j]=32
    ·have hd:=aa3 (hat.trans (aV some h32)) RQ.1;have g2:(((str nU)[j].toNat:Int)==32)=true:=by rw[h32];rfl
     have alN:=Bc (str nU) j (by omega);have Qn:=extract_drop (str nU) (j+1) (by omega);rw[oh] at alN Qn;rw[hsz] at Qn;have q1:(j:Int)<=(nU.length:Int):=by omega
     have q1n:j<=nU.length:=by omega
     have q2:IntKind.i64.wrap ((j:Int)+1)=(j:Int)+1:=aW _ (by omega);have q3:(0:Int)<=(j:Int)+1:=by omega
     have q4:(j:Int)+1<=(nU.length:Int):=by omega
     have hwl:(ws++[nU.take j]).map str=ws.map str++[str (nU.take j)]:=by simp
     have HWL:=jP hwl;clear hwl;have HD:=jP hd;clear hat h32 hd;go_wp2_with fail
     refine wp_region_any (by kernel_rfl) ?_;change wpAny _ _ _ _ 12 #[false,false,false,false,false,false,false,false,false,false,false,false] _ (World.drew _);refine bV (i:=0) (v:=.slice A n c) rfl (by kernel_rfl) (by kernel_rfl) (by kernel_rfl) (fun _ _ _ h=>h) (Or.inl ⟨by rfl,fun w=>?_⟩) ?_
     ·go_simp
     try simp only[Act.put,ax,aF]
     refine bV (i:=1) (v:=.string (str nU)) rfl (by kernel_rfl) (by kernel_rfl) (by kernel_rfl) (fun _ _ _ h=>h) (Or.inl ⟨by rfl,fun w=>?_⟩) ?_
     ·go_simp
     try simp only[Act.put,ax,aF,aC]
     refine bV (i:=2) (v:=.int .i64 j) rfl (by kernel_rfl) (by kernel_rfl) (by kernel_rfl) (fun _ _ _ h=>h) (Or.inl ⟨by rfl,fun w=>?_⟩) ?_
     ·go_simp
     try simp only[Act.put,ax,aF,aC]
     refine bV (i:=3) (v:=.string (str (nU.take j))) rfl (by kernel_rfl) (by kernel_rfl) (by kernel_rfl) (fun _ _ _ h=>h) (Or.inl ⟨by rfl,fun w=>?_⟩) ?_
     ·go_simp
     try simp only[Act.put,ax,aF,aC]
     refine bV (i:=6) (v:=.string (str nU)) rfl (by kernel_rfl) (by kernel_rfl) (by kernel_rfl) (fun _ _ _ h=>h) (Or.inl ⟨by rfl,fun w=>?_⟩) ?_
     ·go_simp
     try simp only[Act.put,ax,aF,aC]
     refine bV (i:=7) (v:=.int .i64 j) rfl (by kernel_rfl) (by kernel_rfl) (by kernel_rfl) (fun _ _ _ h=>h) (Or.inl ⟨by rfl,fun w=>?_⟩) ?_
     ·go_simp
     try simp only[Act.put,ax,aF,aC]
     refine bV (i:=8) (v:=.int .i64 (j+1)) rfl (by kernel_rfl) (by kernel_rfl) (by kernel_rfl) (fun _ _ _ h=>h) (Or.inl ⟨by rfl,fun w=>?_⟩) ?_
     ·go_simp
     try simp only[Act.put,ax,aF,aC]
     refine bV (i:=9) (v:=.string (str (nU.drop (j+1)))) rfl (by kernel_rfl) (by kernel_rfl) (by kernel_rfl) (fun _ _ _ h=>h) (Or.inl ⟨by rfl,fun w=>?_⟩) ?_
     ·go_simp
     try simp only[Act.put,ax,aF,aC]
     refine dM (rs:=[4]) (by kernel_rfl) (by simp) ?_;refine cO rfl (fun K hK=>?_) dL;go_simp
     refine hK _ _ ?_;clear hK K;try simp only[ax,aF,aC]
     refine dM (rs:=[5]) (by kernel_rfl) (by simp) ?_;refine cO rfl (fun K hK=>?_) dL;refine OD (by rfl) (.tmp 14) (.tmp 18) (by rfl) (base:=w.heap.size) (by rfl) (HO.1.drew.alloc _) (by rfl) (qi wr.drew (str (nU.take j))) (by omega) (by simp;omega) ?_;intro A4 c4 w4 kQ hg4;have HP:=jP (own_below HO.1.drew HB.1.drew _ hg4 hsw);have lC:=jP kQ;clear kQ hg4;refine hK _ _ ?_;clear hK K;try simp only[Act.put,ax,aF,aC]
     simp only[List.getElem_toArray,List.getElem_cons_succ,List.getElem_cons_zero,aF,aC];refine bV (i:=10) (v:=.slice A4 (n+1) c4) rfl (by kernel_rfl) (by kernel_rfl) (by kernel_rfl) (fun _ _ _ h=>h) (Or.inl ⟨by rfl,fun w=>?_⟩) ?_
     ·go_simp
     try simp only[Act.put,ax,aF,aC]
     refine dM (rs:=[11]) (by kernel_rfl) (by simp) ?_;refine cO rfl (fun K hK=>?_) dL;go_simp
     refine hK _ _ ?_;clear hK K;try simp only[ax,aF,aC]
     refine wpAny_done (by kernel_rfl) ?_ _;go_step
     go_wp2
     go_roundg (nU.length-(j+1))
     case measure=>have:=HGG.1;omega
     case rel=>exact⟨nU.drop (j+1),ws++[nU.take j],A4,c4,n+1,rfl,rfl,by simp;exact HN.1,by rw[HWL.1];exact lC.1,HP.1,by rw[bF];omega,by rw[Es.1,HD.1];simp,by rw[bF]⟩
    ·have Qj:(32:UInt8)∉nU.take (j+1):=by
      rw[List.take_add_one,hat];simp;exact⟨RQ.1,fun e=>h32 e.symm⟩
     have amk:=jP Qj;have g2:(((str nU)[j].toNat:Int)==32)=false:=by
      rw[aX];intro e;apply h32;apply UInt8.toNat_inj.1;show ((str nU)[j]).toNat=32;omega
     clear hat h32 Qj;go_wp2
     go_roundg (nU.length-(j+1))
     case measure=>omega
     case rel=>exact⟨j+1,by omega,rfl,rfl,by go_num,amk.1,rfl⟩
   ·have hjn:j=nU.length:=by omega
    have Qj:(32:UInt8)∉nU:=by
     have:=RQ.1;rwa [hjn,gJ] at this
    have hfin:(Rq.pW (lst s)).map str=ws.map str++[str nU]:=by rw[Es.1,OH Qj];simp
    have HF:=jP hfin;clear Qj hfin;go_wp2_with (at_builtin;refine Dq (by rfl) _ _ rfl (base:=w.heap.size) rfl (HO.1.alloc _) rfl (qi wr (str nU)) (by omega) (by simp<;>omega) ?_)
    intro A4 c4 w4 kQ hg4 hc4;have HP:=jP (own_below HO.1 HB.1 _ hg4 hsw);have lC:=jP kQ;clear kQ hg4 hc4;go_wp2
    go_ret
    have hl:n+1=(ws.map str++[str nU]).length:=by simp;exact HN.1.symm
    rw[HF.1];refine⟨A4,c4,by rw[<-hl];rfl,by rw[<-hl];exact lC.1,HP.1⟩
end Go.Proofs.YtkachcflifhgiaaGreatDoor
