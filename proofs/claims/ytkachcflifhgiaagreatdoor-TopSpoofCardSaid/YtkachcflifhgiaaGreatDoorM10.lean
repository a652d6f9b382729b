/-   -/
import Derived.Test.YtkachcflifhgiaaGreatDoorRqXZ
import Derived.Shelf.Strings.Builder1
set_option linter.unusedVariables false
set_option maxRecDepth 100000
set_option maxHeartbeats 16000000
namespace Go.Proofs.YtkachcflifhgiaaGreatDoor
open Go Go.RowKit Go.Proofs
def Gj:Go.Shelf.Ren:=⟨fun | 167=>155 | 240=>220 | 276=>263 | n=>n,
 fun | 0=>0 | 4=>4 | 5=>5 | 9=>9 | 20=>20 | 37=>177 | 70=>210 | 72=>212 | 75=>214 | 164=>288 | 80=>216 | n=>n,fun | n=>n⟩
theorem Oq:Lays.n167 Tryz.prog Gj:={
 mixed:=by kernel_rfl
 f167:=Tryz.func155.trans (aV some (by kernel_rfl))
 f240:=Tryz.func220.trans (aV some (by kernel_rfl))
 f276:=Tryz.func263.trans (aV some (by kernel_rfl))
 t0:=jb
 a0:=Tryz.isAgg0
 z0:=Tryz.sizeOf0
 v0:=jl
 t4:=eP
 a4:=Tryz.isAgg4
 z4:=Tryz.sizeOf4
 v4:=iH
 t5:=dO
 a5:=Tryz.isAgg5
 z5:=Tryz.sizeOf5
 v5:=iK
 t9:=dW
 a9:=Tryz.isAgg9
 z9:=Tryz.sizeOf9
 v9:=jk
 t20:=Tryz.underlying20
 a20:=Tryz.isAgg20
 z20:=Tryz.sizeOf20
 v20:=Tryz.zeroValue20
 t37:=dI
 a37:=Tryz.isAgg177
 z37:=Tryz.sizeOf177
 v37:=Tryz.zeroValue177
 t70:=Tryz.underlying210
 a70:=Tryz.isAgg210
 z70:=Tryz.sizeOf210
 v70:=Tryz.zeroValue210
 t72:=Tryz.underlying212
 a72:=Tryz.isAgg212
 z72:=Tryz.sizeOf212
 v72:=Tryz.zeroValue212
 t75:=Tryz.underlying214
 a75:=Tryz.isAgg214
 z75:=Tryz.sizeOf214
 v75:=Tryz.zeroValue214
 t164:=Tryz.underlying288
 a164:=Tryz.isAgg288
 z164:=Tryz.sizeOf288
 v164:=Tryz.zeroValue288 }
def Vf:Go.Shelf.Ren:=⟨fun | 169=>156 | n=>n,
 fun | 0=>0 | 3=>3 | 9=>9 | 37=>177 | 70=>210 | 72=>212 | 127=>260 | 5=>5 | n=>n,fun | n=>n⟩
theorem ac7:Lays.n169 Tryz.prog Vf:={
 mixed:=by kernel_rfl
 f169:=Tryz.func156.trans (aV some (by kernel_rfl))
 t0:=jb
 a0:=Tryz.isAgg0
 z0:=Tryz.sizeOf0
 v0:=jl
 t3:=bM
 a3:=Tryz.isAgg3
 z3:=Tryz.sizeOf3
 v3:=gX
 t9:=dW
 a9:=Tryz.isAgg9
 z9:=Tryz.sizeOf9
 v9:=jk
 t37:=dI
 a37:=Tryz.isAgg177
 z37:=Tryz.sizeOf177
 v37:=Tryz.zeroValue177
 t70:=Tryz.underlying210
 a70:=Tryz.isAgg210
 z70:=Tryz.sizeOf210
 v70:=Tryz.zeroValue210
 t72:=Tryz.underlying212
 a72:=Tryz.isAgg212
 z72:=Tryz.sizeOf212
 v72:=Tryz.zeroValue212
 t127:=Tryz.underlying260
 a127:=Tryz.isAgg260
 z127:=Tryz.sizeOf260
 v127:=Tryz.zeroValue260 }
theorem LZ:Builder.Extra Tryz.prog Gj:={
 sizeBuilder:=by kernel_rfl
 liesBuilder:=by kernel_rfl
 t5:=dO
 a5:=Tryz.isAgg5
 z5:=Tryz.sizeOf5
 v5:=iK
 infoByte:=by kernel_rfl
 cellsByte:=by kernel_rfl
 sizeByte:=by kernel_rfl
 neB5:=by decide }
theorem aad:Builder.Extra Tryz.prog Vf:={
 sizeBuilder:=by kernel_rfl
 liesBuilder:=by kernel_rfl
 t5:=dO
 a5:=Tryz.isAgg5
 z5:=Tryz.sizeOf5
 v5:=iK
 infoByte:=by kernel_rfl
 cellsByte:=by kernel_rfl
 sizeByte:=by kernel_rfl
 neB5:=by decide }
theorem aab {w w':World}{d:Nat}(h:w'.heap[d]?=w.heap[d]?)(j:Nat):w'.cell? ⟨d,j,none⟩=w.cell? ⟨d,j,none⟩:=by
 unfold World.cell?;simp only;rw[h]
def Bd (w:World)(b d:Nat)(out:List UInt8):Prop:=
 ∃ p v,(p=.pointer none\/p=.pointer (some ⟨b,0,none⟩))/\Bk w b 212 #[p,v]/\w.ownsRow (d+1) 5 1 v out.length (mW out)
theorem Bd.builder {w:World}{b d:Nat}{out:List UInt8}(h:Bd w b d out)(hbd:b<d):Lib.IsBuilder 212 5 b b (mW out) w:=by
 obtain⟨p,v,hp,hb,ho⟩:=h;have hne:v.ownBlock≠some b:=fun e=>by have:=(ho.lt _ e).1;omega
 rcases hp with rfl | rfl
 ·exact .inl ⟨ag _,v,hb,by rw[qY];exact lH ho (by omega),hne⟩
 ·exact .inr ⟨ag _,v,hb,by rw[qY];exact lH ho (by omega),hne⟩
def Kp (w:World)(b d:Nat)(w':World):Prop:=Below b w w'/\(∀ i,i<=d->i≠b->w'.heap[i]?=w.heap[i]?)/\d<w'.heap.size
theorem Kp.trans {w w' w'':World}{b d:Nat}(h:Kp w b d w')(k:Kp w' b d w''):Kp w b d w'':=
 ⟨h.1.trans k.1,fun i h1 h2=>(k.2.1 i h1 h2).trans (h.2.1 i h1 h2),k.2.2⟩
theorem ahV (b d:Nat)(out:List UInt8)(w:World)(h:Bd w b d out)(hbd:b<d)(hd:d<w.heap.size) :
  Calls Tryz.prog 220 #[.pointer (some ⟨b,0,none⟩)] w fun e w'=>e=.returned (.tuple #[])/\(∃ v,Bk w' b 212 #[.pointer (some ⟨b,0,none⟩),v]/\w'.ownsRow (d+1) 5 1 v out.length (mW out))/\Kp w b d w':=by
 have hbu:=h.builder hbd;obtain⟨p,v,hp,hb,ho⟩:=h;rcases hp with rfl | rfl
 ·have hb1:Lib.BuilderAt 212 5 b b (.pointer none) (mW out) w:=⟨ag _,v,hb,by rw[qY];exact lH ho (by omega),fun e=>by have:=(ho.lt _ e).1;omega⟩;refine (Any.Builder_copyCheck_fresh (P:=Tryz.prog) (ρ:=Gj) { Oq with } LZ.toX72 b w hb1.cell0 hb1.shape hb1.frozen0).mono ?_;rintro e w' ⟨rfl,rfl⟩;refine⟨rfl,⟨v,hb.kM 0 _,aQ ho (a:=⟨b,0,none⟩) (by show b<_;omega) _⟩,(ai b w).setCell (p:=⟨b,0,none⟩) (ag _) _,fun i h1 h2=>iE w _ _ i h2,by simpa using hd⟩
 ·have hc0:w.cell? ⟨b,0,none⟩=some (.pointer (some ⟨b,0,none⟩)):=hb.cell 0;refine (Any.Builder_copyCheck_used (P:=Tryz.prog) (ρ:=Gj) { Oq with } LZ.toX72 b w hc0).mono ?_;rintro e w' ⟨rfl,rfl⟩;exact⟨rfl,⟨v,hb,ho⟩,ai b _,fun i _ _=>rfl,hd⟩
theorem Jb (b d:Nat)(out:List UInt8)(c:UInt8)(w:World)(h:Bd w b d out)(hbd:b<d)(hd:d<w.heap.size)(hlen:out.length+1<=140737488355328) :
  Calls Tryz.prog 155 #[.pointer (some ⟨b,0,none⟩),.int .u8 (c.toNat:Int)] w fun e w'=>e=.returned .nilIface/\Bd w' b d (out++[c])/\Kp w b d w':=by
 have HCC:=jP (ahV b d out w h hbd hd);clear h;go_enter Tryz.func155,Tryz.ntmps155
 go_wp2_with fail
 refine HCC.1.mono ?_;rintro e w1 ⟨rfl,⟨v,hb,ho⟩,hk⟩;have c0:w1.cell? ⟨b,0,none⟩=some (.pointer (some ⟨b,0,none⟩)):=hb.cell 0;have c1:w1.cell? ⟨b,1,none⟩=some v:=hb.cell 1;have hd1:=hk.2.2;have HB:=jP hb;have HO:=jP ho;have HK:=jP hk;clear hb ho hk;go_wp2_with (at_builtin;refine rG (by rfl) _ _ rfl (base:=d+1) rfl (HO.1.alloc _) rfl (yM (z:=w1.heap.size) rfl c) hlen (by simp;omega) ?_)
 intro A2 c2 w2 ho2 hg2 _;have hne:some b≠v.ownBlock:=fun e=>by have:=(HO.1.lt _ e.symm).1;omega
 have hb2:=(HB.1.alloc (.cells #[.int .u8 (c.toNat:Int)] 5)).grown hg2 hne;have d0:w2.cell? ⟨b,0,none⟩=some (.pointer (some ⟨b,0,none⟩)):=hb2.cell 0;have d1:w2.cell? ⟨b,1,none⟩=some v:=hb2.cell 1;have f1:w2.frozen? ⟨b,1,none⟩=false:=hb2.frozen 1;have hkeep:Kp w b d (w2.setCell ⟨b,1,none⟩ (.slice A2 (out.length+1) c2)):=by
  refine HK.1.trans ⟨?_,fun i h1 h2=>?_,?_⟩
  ·exact (((ai b w1).alloc (by omega) _).grown hg2 (by simp;omega) (fun q hq=>by have:=(HO.1.lt q hq).1;omega)).setCell (p:=⟨b,1,none⟩) (ag _) _
  ·rw[iE w2 _ _ i h2,hg2.block i (by simp;omega) (fun e=>by have:=(HO.1.lt _ e.symm).1;omega)];exact iy w1 _ i (by omega)
  ·have:=hg2.size;simp at this ⊢;omega
 have HKK:=jP hkeep;have lG:=jP ho2;have HB2:=jP hb2;clear ho2 hg2 hne hb2 hkeep;go_wp2
 go_ret
 refine⟨rfl,⟨_,_,.inr rfl,HB2.1.kM 1 _,?_⟩,HKK.1⟩;have:=aQ lG.1 (a:=⟨b,1,none⟩) (by show b<_;omega) (.slice A2 (out.length+1) c2);simpa using this
theorem ac6 (b d:Nat)(out:List UInt8)(w:World)(h:Bd w b d out)(hbd:b<d)(hd:d<w.heap.size) :
  Calls Tryz.prog 156 #[.pointer (some ⟨b,0,none⟩)] w fun e w'=>e=.returned (.string (str out))/\Below b w w':=
 Any.Builder_String_any ac7 aad b b out w (h.builder hbd) (by omega)
end Go.Proofs.YtkachcflifhgiaaGreatDoor
namespace Go.Proofs.YtkachcflifhgiaaGreatDoor
open Go Go.RowKit
theorem abn {l:List UInt8}(h:l≠[]):Rq.quote l=Rq.qs l:=by unfold Rq.quote;rw[ah h]
theorem Bd.past {w w':World}{b d:Nat}{out:List UInt8}(h:Bd w b d out)(hb:Below w.heap.size w w'):Bd w' b d out:=by
 obtain⟨p,v,hp,hk,ho⟩:=h;exact⟨p,v,hp,hk.below hb hk.lt,kD ho hb⟩
theorem Zr (n:Nat)(h:n<(⟨#[48,49,50,51,52,53,54,55,56,57,65,66,67,68,69,70]⟩:ByteArray).size):(⟨#[48,49,50,51,52,53,54,55,56,57,65,66,67,68,69,70]⟩:ByteArray)[n]=Rq.hd n:=by
 have:∀ i:Fin 16,(⟨#[48,49,50,51,52,53,54,55,56,57,65,66,67,68,69,70]⟩:ByteArray)[i.val]'(by exact i.isLt)=Rq.hd i.val:=by decide
 exact this ⟨n,h⟩
theorem Yz (s:ByteArray)(hs:s.size<=35184372088832)(w:World):Calls Tryz.prog 98 #[.string s] w fun e w'=>e=.returned (.string (str (Rq.quote (lst s))))/\Below w.heap.size w w':=by
 by_cases h0:lst s=[]
 ·have hs0:s=⟨#[]⟩:=by rw[<-uF s,h0];rfl
  subst hs0;go_enter Tryz.func98,Tryz.ntmps98
  go_wp2
  go_ret
  exact⟨rfl,ai _ _⟩
 have hse:s.toList.isEmpty=false:=by rw[<-uF s];exact X5 h0
 have HQ:=jP (abn h0);clear h0;obtain⟨cc,w2,hcv,uu,hsz2,hcc,hcells,hfz⟩:=uw s (w.alloc (.cells #[.pointer none,.slice none 0 0] 212));have hsz1:(w.alloc (.cells #[.pointer none,.slice none 0 0] 212)).heap.size=w.heap.size+1:=by simp
 rw[hsz1] at hcv uu hsz2 hcells;have hbd0:Bd (w.alloc (.cells #[.pointer none,.slice none 0 0] 212)) w.heap.size (w.heap.size+1) []:=⟨_,_,.inl rfl,Bk.new _ _ _,aH _ _ _ _⟩;have amw:=jP (hbd0.past (by rw[hsz1];exact uu));have HB0:=jP (((ai w.heap.size w).alloc (ag _) (.cells #[.pointer none,.slice none 0 0] 212)).trans (uu.mono (by omega)));have HC:=jP hcells;clear uu hcells hfz hbd0 hsz1;go_enter Tryz.func98,Tryz.ntmps98
 go_wp2_with fail
 go_loopw [11] (fun vj wr=>∃ j:Nat,j<=s.size/\vj=.int .i64 j/\Bd wr w.heap.size (w.heap.size+1) (Rq.qs ((lst s).take j))/\Below w.heap.size w wr/\wr.heap[w.heap.size+1]?=w2.heap[w.heap.size+1]?/\w.heap.size+1<wr.heap.size) (fun vj _=>s.size-(intOf vj).toNat)
 case atStart=>exact⟨0,by omega,rfl,amw.1,HB0.1,rfl,hsz2⟩
 case round=>
  obtain⟨j,hj,rfl,hbd,hb,hd,hdl⟩:=hrel;have xH:=jP hbd;have HB:=jP hb;have HD:=jP hd;clear hbd hb hd;by_cases hlt:j<s.size
  ·have hat:=wH s j hlt;have hc:wr.cell? ⟨w.heap.size+1,j,none⟩=some (.int .u8 (s[j].toNat:Int)):=(aab HD.1 j).trans (HC.1 j _ hat);have hqt:=Rq.aeY hat;have hql:=(Rq.O8 ((lst s).take j)).2;have htl:((lst s).take j).length<=j:=by rw[bZ];omega
   have HQT:=jP hqt;clear hat hqt;go_wp2_with fail
   refine (MJ s[j] _).mono ?_;rintro e w9 ⟨rfl,rfl⟩;cases hp:Rq.pl s[j]
   ·have AQ:Rq.qb s[j]=[37,Rq.hd (s[j].toNat/16),Rq.hd (s[j].toNat%16)]:=by unfold Rq.qb;rw[hp];rfl
    rw[AQ] at HQT;have hlt:=s[j].toNat_lt;clear AQ hp;generalize s[j]=y at *;go_wp2_with fail
    refine (Jb w.heap.size (w.heap.size+1) _ 37 _ xH.1 (by omega) hdl (by omega)).mono ?_;rintro e w4 ⟨rfl,Qp,hk4⟩;have adu:=jP Qp;have FX:=jP hk4;have alP:=hk4.2.2;clear Qp hk4;go_wp2_with fail
    rw[Zr];refine (Jb w.heap.size (w.heap.size+1) _ _ _ adu.1 (by omega) alP (by simp;omega)).mono ?_;rintro e w5 ⟨rfl,ahC,hk5⟩;have amv:=jP ahC;have RY:=jP (FX.1.trans hk5);have alO:=hk5.2.2;clear ahC hk5;go_wp2_with fail
    rw[Zr];refine (Jb w.heap.size (w.heap.size+1) _ _ _ amv.1 (by omega) alO (by simp;omega)).mono ?_;rintro e w6 ⟨rfl,hbd6,hk6⟩;have ahB:Rq.qs ((lst s).take j)++[37]++[Rq.hd (y.toNat/16)]++[Rq.hd (y.toNat%16)]=Rq.qs ((lst s).take (j+1)):=by rw[HQT.1];simp
    rw[ahB] at hbd6;have amu:=jP hbd6;have CB:=jP (RY.1.trans hk6);clear hbd6 hk6 ahB;go_wp2
    go_roundw
    case rel=>exact⟨j+1,by omega,by go_num,amu.1,HB.1.trans CB.1.1,(CB.1.2.1 _ (ag _) (by omega)).trans HD.1,CB.1.2.2⟩
    case measure=>simp[intOf];omega
   ·have AQ:Rq.qb s[j]=[s[j]]:=by unfold Rq.qb;rw[hp];rfl
    rw[AQ] at HQT;clear AQ hp;go_wp2_with fail
    refine (Jb w.heap.size (w.heap.size+1) _ s[j] _ xH.1 (by omega) hdl (by omega)).mono ?_;rintro e w4 ⟨rfl,Qp,hk4⟩;have adu:=jP Qp;have FX:=jP hk4;clear Qp hk4;go_wp2
    go_roundw
    case rel=>exact⟨j+1,by omega,by go_num,by rw[HQT.1];exact adu.1,HB.1.trans FX.1.1,(FX.1.2.1 _ (ag _) (by omega)).trans HD.1,FX.1.2.2⟩
    case measure=>simp[intOf];omega
  ·have hjn:j=s.size:=by omega
   have htk:(lst s).take j=lst s:=by rw[hjn,<-jV,gJ]
   rw[htk] at xH;clear hjn htk;go_wp2_with fail
   refine (ac6 w.heap.size (w.heap.size+1) _ _ xH.1 (by omega) hdl).mono ?_;rintro e w4 ⟨rfl,hb4⟩;have HB4:=jP (HB.1.trans hb4);clear hb4;go_wp2
   go_ret
   exact⟨by rw[HQ.1];rfl,HB4.1⟩
end Go.Proofs.YtkachcflifhgiaaGreatDoor
