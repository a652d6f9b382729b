/-   -/
import Derived.Test.YtkachcflifhgiaaGreatDoorM10
import Derived.Test.YtkachcflifhgiaaGreatDoorRqLZ
import Derived.Shelf.Strings.OnBuilder
import Derived.Shelf.Strconv.Itoa3
import Derived.Lib.AppendIntMem
import Derived.Deep.RegionHeld3
set_option linter.unusedVariables false
set_option maxRecDepth 100000
set_option maxHeartbeats 16000000
namespace Go.Proofs.YtkachcflifhgiaaGreatDoor
open Go Go.RowKit Go.Proofs
def UN:Go.Shelf.Ren:=⟨fun | 156=>99 | 165=>157 | 166=>158 | 169=>156 | 240=>220 | 241=>221 | 276=>263 | 277=>264 | n=>n,
 fun | 0=>0 | 3=>3 | 4=>4 | 9=>9 | 20=>20 | 31=>46 | 37=>177 | 70=>210 | 72=>212 | 75=>214 | 76=>217 | 127=>260 | 164=>288 | 5=>5 | 80=>216 | n=>n,fun | n=>n⟩
theorem P_:Lays.n156 Tryz.prog UN:={
 mixed:=by kernel_rfl
 f156:=Tryz.func99.trans (aV some (by kernel_rfl))
 f165:=Tryz.func157.trans (aV some (by kernel_rfl))
 f166:=Tryz.func158.trans (aV some (by kernel_rfl))
 f169:=Tryz.func156.trans (aV some (by kernel_rfl))
 f240:=Tryz.func220.trans (aV some (by kernel_rfl))
 f241:=Tryz.func221.trans (aV some (by kernel_rfl))
 f276:=Tryz.func263.trans (aV some (by kernel_rfl))
 f277:=Tryz.func264.trans (aV some (by kernel_rfl))
 t0:=jb
 a0:=Tryz.isAgg0
 z0:=Tryz.sizeOf0
 v0:=jl
 t3:=bM
 a3:=Tryz.isAgg3
 z3:=Tryz.sizeOf3
 v3:=gX
 t4:=eP
 a4:=Tryz.isAgg4
 z4:=Tryz.sizeOf4
 v4:=iH
 t9:=dW
 a9:=Tryz.isAgg9
 z9:=Tryz.sizeOf9
 v9:=jk
 t20:=Tryz.underlying20
 a20:=Tryz.isAgg20
 z20:=Tryz.sizeOf20
 v20:=Tryz.zeroValue20
 t31:=Tryz.underlying46
 a31:=Tryz.isAgg46
 z31:=Tryz.sizeOf46
 v31:=Tryz.zeroValue46
 t37:=dI
 a37:=Tryz.isAgg177
 z37:=Tryz.sizeOf177
 v37:=Tryz.zeroValue177
 t70:=Tryz.underlying210
 a70:=Tryz.isAgg210
 z70:=Tryz.sizeOf210
 v70:=Tryz.zeroValue210
 t72:=Tryz.underlying212
 a72:=Tryz.isAgg212
 z72:=Tryz.sizeOf212
 v72:=Tryz.zeroValue212
 t75:=Tryz.underlying214
 a75:=Tryz.isAgg214
 z75:=Tryz.sizeOf214
 v75:=Tryz.zeroValue214
 t76:=Tryz.underlying217
 a76:=Tryz.isAgg217
 z76:=Tryz.sizeOf217
 v76:=Tryz.zeroValue217
 t127:=Tryz.underlying260
 a127:=Tryz.isAgg260
 z127:=Tryz.sizeOf260
 v127:=Tryz.zeroValue260
 t164:=Tryz.underlying288
 a164:=Tryz.isAgg288
 z164:=Tryz.sizeOf288
 v164:=Tryz.zeroValue288 }
theorem MS:Builder.Extra Tryz.prog UN:={
 sizeBuilder:=by kernel_rfl
 liesBuilder:=by kernel_rfl
 t5:=dO
 a5:=Tryz.isAgg5
 z5:=Tryz.sizeOf5
 v5:=iK
 infoByte:=by kernel_rfl
 cellsByte:=by kernel_rfl
 sizeByte:=by kernel_rfl
 neB5:=by decide }
def UO:Go.Shelf.Ren:=⟨fun | 129=>280 | 171=>97 | 243=>154 | 246=>219 | 283=>259 | 284=>260 | 285=>261 | 286=>262 | 317=>302 | 318=>303 | 319=>304 | 320=>305 | 337=>317 | 338=>318 | n=>n,
 fun | 0=>0 | 2=>2 | 3=>3 | 4=>4 | 5=>5 | 9=>9 | 20=>20 | 37=>177 | 46=>117 | 51=>304 | 53=>197 | 171=>283 | 173=>286 | 212=>312 | 213=>313 | 232=>324 | 233=>325 | n=>n,fun | 17=>1 | 18=>3 | 19=>4 | n=>n⟩
theorem ab2:Lays.n171 Tryz.prog UO:={
 mixed:=by kernel_rfl
 f129:=Tryz.func280.trans (aV some (by kernel_rfl))
 f171:=Tryz.func97.trans (aV some (by kernel_rfl))
 f243:=Tryz.func154.trans (aV some (by kernel_rfl))
 f246:=Tryz.func219.trans (aV some (by kernel_rfl))
 f283:=Tryz.func259.trans (aV some (by kernel_rfl))
 f284:=Tryz.func260.trans (aV some (by kernel_rfl))
 f285:=Tryz.func261.trans (aV some (by kernel_rfl))
 f286:=Tryz.func262.trans (aV some (by kernel_rfl))
 f317:=Tryz.func302.trans (aV some (by kernel_rfl))
 f318:=Tryz.func303.trans (aV some (by kernel_rfl))
 f319:=Tryz.func304.trans (aV some (by kernel_rfl))
 f320:=Tryz.func305.trans (aV some (by kernel_rfl))
 f337:=Tryz.func317.trans (aV some (by kernel_rfl))
 f338:=Tryz.func318.trans (aV some (by kernel_rfl))
 t0:=jb
 a0:=Tryz.isAgg0
 z0:=Tryz.sizeOf0
 v0:=jl
 t2:=Tryz.underlying2
 a2:=Tryz.isAgg2
 z2:=Tryz.sizeOf2
 v2:=Tryz.zeroValue2
 t3:=bM
 a3:=Tryz.isAgg3
 z3:=Tryz.sizeOf3
 v3:=gX
 t4:=eP
 a4:=Tryz.isAgg4
 z4:=Tryz.sizeOf4
 v4:=iH
 t5:=dO
 a5:=Tryz.isAgg5
 z5:=Tryz.sizeOf5
 v5:=iK
 t9:=dW
 a9:=Tryz.isAgg9
 z9:=Tryz.sizeOf9
 v9:=jk
 t20:=Tryz.underlying20
 a20:=Tryz.isAgg20
 z20:=Tryz.sizeOf20
 v20:=Tryz.zeroValue20
 t37:=dI
 a37:=Tryz.isAgg177
 z37:=Tryz.sizeOf177
 v37:=Tryz.zeroValue177
 t46:=Tryz.underlying117
 a46:=Tryz.isAgg117
 z46:=Tryz.sizeOf117
 v46:=Tryz.zeroValue117
 t51:=Tryz.underlying304
 a51:=Tryz.isAgg304
 z51:=Tryz.sizeOf304
 v51:=Tryz.zeroValue304
 t53:=Tryz.underlying197
 a53:=Tryz.isAgg197
 z53:=Tryz.sizeOf197
 v53:=Tryz.zeroValue197
 t171:=Tryz.underlying283
 a171:=Tryz.isAgg283
 z171:=Tryz.sizeOf283
 v171:=Tryz.zeroValue283
 t173:=Tryz.underlying286
 a173:=Tryz.isAgg286
 z173:=Tryz.sizeOf286
 v173:=Tryz.zeroValue286
 t212:=Tryz.underlying312
 a212:=Tryz.isAgg312
 z212:=Tryz.sizeOf312
 v212:=Tryz.zeroValue312
 t213:=Tryz.underlying313
 a213:=Tryz.isAgg313
 z213:=Tryz.sizeOf313
 t232:=Tryz.underlying324
 a232:=Tryz.isAgg324
 z232:=Tryz.sizeOf324
 v232:=Tryz.zeroValue324
 t233:=Tryz.underlying325
 a233:=Tryz.isAgg325
 z233:=Tryz.sizeOf325
 v233:=Tryz.zeroValue325
 g17:=by kernel_rfl
 g18:=by kernel_rfl
 g19:=by kernel_rfl }
theorem ab1:LaysM.n171 Tryz.prog UO:={ ab2 with
 i0:=by kernel_rfl
 i2:=by kernel_rfl
 i3:=by kernel_rfl
 i4:=by kernel_rfl
 i5:=by kernel_rfl
 i9:=by kernel_rfl
 i20:=by kernel_rfl
 i37:=by kernel_rfl
 i46:=by kernel_rfl
 i51:=by kernel_rfl
 i53:=by kernel_rfl
 i171:=by kernel_rfl
 i173:=by kernel_rfl
 i212:=by kernel_rfl
 i232:=by kernel_rfl
 i233:=by kernel_rfl
 m17:=by kernel_rfl
 m18:=by kernel_rfl
 m19:=by kernel_rfl }
def Tb (w:World):Prop:=Lib.TabIs Tryz.prog w "internal/strconv.uint64pow10" .u64 Lib.pow10Tab
theorem Tb.past {w w':World}(h:Tb w)(hb:Below w.heap.size w w'):Tb w':=Lib.tabBelow_of_tabIs h w' hb
theorem below_grow (w:World)(k:Nat)(os:Array Obj):Below w.heap.size w (Sort.grow (w.drewN k) os):=by
 refine⟨rfl,rfl,rfl,?_,fun i hi=>?_⟩
 ·show w.heap.size<=(w.heap++os).size;simp
 ·show (w.heap++os)[i]?=w.heap[i]?;rw[iO hi]
theorem abZ (n:Int)(h0:-9223372036854775808<=n)(h1:n<=9223372036854775807)(w:World)(ht:Tb w) :
  Calls Tryz.prog 97 #[.int .i64 n] w fun e w'=>e=.returned (.string (str (Lib.itoa n)))/\Below w.heap.size w w':=by
 refine (Any.strconv_Itoa ab1 n h0 h1 w ht).mono ?_;rintro e w' ⟨rfl,k,os,rfl⟩;exact⟨rfl,below_grow w k os⟩
theorem abV (A:Option Addr)(n c:Nat)(l:List (List UInt8))(B:Nat)(w:World)(hr:Rd w B 1 A n (strs (l.map str)))(hn:0<n)(hB:B<=w.heap.size)(hc:n<=c)(hN:n<=140737488355328)(hl:(Rq.jn l).length<=140737488355328) :
  Calls Tryz.prog 99 #[.slice A n c,.string ⟨#[32]⟩] w fun e w'=>e=.returned (.string (str (Rq.jn l)))/\Below w.heap.size w w':=by
 have hll:l.length=n:=by have:=hr.1;rw[pF,bH] at this;omega
 obtain⟨b,off,rfl,hb,hcs⟩:=hr.2 (by rw[pF,bH];omega);have hm:(l.map str).map (fun x=>x.data.toList)=l:=by
  rw[List.map_map];have:(fun x:ByteArray=>x.data.toList) ∘ str=id:=by funext x;rfl
  rw[this,List.map_id]
 have h:=Any.strings_Join P_ MS b off c (l.map str) ⟨#[32]⟩ w (fun j x hx=>hcs j _ (by rw[xQ,hx];rfl)) (by omega) (by rw[bH];omega) (by rw[bH];omega)
  (by rw[hm];show (Lib.join l [32]).length<=_;rw[Lj];exact hl)
 rw[hm,bH,hll] at h;have hj:Lib.join l (⟨#[32]⟩:ByteArray).data.toList=Rq.jn l:=Lj l;rw[hj] at h;exact h
def A_ (op ttl:Int)(ns:List (List UInt8)):Value:=
 if op=7/\ns.length≠1 then .tuple #[.string ⟨#[]⟩,.int .i64 4] else if 4096<(Rq.qV op ttl ns).length then .tuple #[.string ⟨#[]⟩,.int .i64 7] else .tuple #[.string (str (Rq.qV op ttl ns)),.int .i64 0]
theorem afb {w:World}{base:Nat}{e:TypeId}{size n c:Nat}{A:Option Addr}{xs:List Value}(h:w.ownsRow base e size (.slice A n c) n xs):n<=c:=by
 rcases h.2 with ⟨hv,h0⟩ | ⟨g,cap,cur,hv,hbg,hh,hnc,hcm,hcs,htk⟩
 ·injection hv with e1 e2 e3;omega
 ·injection hv with e1 e2 e3;omega
theorem N8 {ns:List (List UInt8)}{k:Nat}{x:List UInt8}(h:ns[k]?=some x)(ws:List (List UInt8)):(ws++(ns.take (k+1)).map Rq.quote).map str=(ws++(ns.take k).map Rq.quote).map str++[str (Rq.quote x)]:=by
 obtain⟨h1,h2⟩:=ak.1 h;rw[az h1,h2];simp
theorem Xh (j:Nat)(ttl:Int)(A:Option Addr)(n c:Nat)(ns:List (List UInt8))(w:World)(hr:Rd w w.heap.size 1 A n (strs (ns.map str)))(h0:1<=j)(h7:j<=7)(ht:Rq.ttl (j:Int) ttl=true)
  (hN:n<=1048576) (hm:∀ x∈ns,x.length<=1048576) (hL:(Rq.qV (j:Int) ttl ns).length<=140737488355328) (htab:Tb w) :
  Calls Tryz.prog 44 #[.agg #[.int .i64 (j:Int),.int .i64 ttl,.slice A n c]] w fun e w'=>e=.returned (A_ (j:Int) ttl ns)/\Below w.heap.size w w':=by
 have hns:ns.length=n:=by have:=hr.1;rw[pF,bH] at this;omega
 have hb1:Below w.heap.size w (w.alloc (.cells #[.int .i64 (j:Int),.int .i64 ttl,.slice A n c] 71)):=(ai _ _).alloc (ag _) _;have HT:=jP (TW (j:Int) ttl);rw[ht] at HT;have hbt:Rq.oP (j:Int)=true->1<=ttl/\ttl<=1073741824:=by
  intro h;unfold Rq.ttl at ht;rw[h] at ht;simpa using ht
 have HBT:=jP hbt;have HR:=jP hr;have HM:=jP hm;have Ry:=jP htab;have zN:=jP hL;clear ht hbt hr hm htab hL;by_cases hbad:(j:Int)=7/\ns.length≠1
 ·have hv:A_ (j:Int) ttl ns=.tuple #[.string ⟨#[]⟩,.int .i64 4]:=by unfold A_;rw[aj hbad]
  have HV:=jP hv;obtain⟨g1,g2⟩:=hbad;have Ql:((j:Int)==7)=true:=by simpa using g1
  have hn1:((n:Int) != 1)=true:=by rw[fK];omega
  clear hv g1 g2;go_enter Tryz.func44,Tryz.ntmps44
  go_wp2_with fail
  refine (HT.1 _).mono ?_;rintro e w1 ⟨rfl,rfl⟩;go_wp2
  go_ret2
  exact⟨by rw[HV.1];rfl,hb1⟩
 have hv:A_ (j:Int) ttl ns=if 4096<(Rq.qV (j:Int) ttl ns).length then .tuple #[.string ⟨#[]⟩,.int .i64 7] else .tuple #[.string (str (Rq.qV (j:Int) ttl ns)),.int .i64 0]:=by unfold A_;rw[ah hbad]
 have HV:=jP hv;have hcond:(((j:Int)==7)=true/\((n:Int) != 1)=false)\/((j:Int)==7)=false:=by
  by_cases h:(j:Int)=7
  ·left;refine⟨by simpa using h,?_⟩;have:ns.length=1:=by
    by_cases h1:ns.length=1
    ·exact h1
    ·exact absurd ⟨h,h1⟩ hbad
   rw[<-hns,this];rfl
  ·right;simpa using h
 clear hv hbad;rcases hcond with ⟨Ql,hn1⟩ | Ql
 all_goals
  go_enter Tryz.func44,Tryz.ntmps44
  go_upto_region 7 with (refine (HT.1 _).mono ?_;rintro e w1 ⟨rfl,rfl⟩)
  go_cut [4] (fun v4 wx=>∃ G:Nat,v4=.slice (some ⟨G,0,none⟩) 1 1/\wx.ownsRow (w.heap.size+1) 9 1 (.slice (some ⟨G,0,none⟩) 1 1) 1 (strs [str (Rq.wd j)])/\Below w.heap.size w wx /\
   Bk wx w.heap.size 71 #[.int .i64 (j:Int),.int .i64 ttl,.slice A n c]/\w.heap.size<wx.heap.size)
  case first=>
   have hX:∀ W w9:World,w9=W.alloc (.cells Dc 9)->W=(w.alloc (.cells #[.int .i64 (j:Int),.int .i64 ttl,.slice A n c] 71)).drew->w9.heap.size=w.heap.size+2/\Bk w9 w.heap.size 71 #[.int .i64 (j:Int),.int .i64 ttl,.slice A n c] /\
     w9.cell? ⟨w.heap.size+1,j,none⟩=some (.string (str (Rq.wd j)))/\Below w.heap.size w w9:=by
    intro W w9 h1 h2;have hWs:W.heap.size=w.heap.size+1:=by rw[h2];simp
    refine⟨by rw[h1];simp[hWs],?_,?_,?_⟩
    ·rw[h1,h2];exact (Bk.new w _ _).drew.alloc _
    ·rw[h1,<-hWs,(Bk.new W 9 Dc).cell,Ja j (by omega)]
    ·rw[h1,h2];exact hb1.drew.alloc (by simp) _
   have HX:=jP hX;clear hX;have hj8:¬((8:Int)<=(j:Int)):=by omega
   have k0:(w.alloc (.cells #[.int .i64 (j:Int),.int .i64 ttl,.slice A n c] 71)).cell? ⟨w.heap.size,0,none⟩=some (.int .i64 (j:Int)):=(Bk.new w _ _).cell 0;refine wp_region_any (by kernel_rfl) ?_;change wpAny _ _ _ _ 7 #[false,false,false,false,false,false,false] _ (World.drew _);refine bV (i:=1) (v:=.pointer (some ⟨w.heap.size,0,none⟩)) rfl (by kernel_rfl) (by kernel_rfl) (by kernel_rfl) (fun _ _ _ h=>h) (Or.inl ⟨by rfl,fun w=>?_⟩) ?_
   ·go_simp
   try simp only[Act.put,ax,aF,aC]
   refine dM (rs:=[0,2]) (by kernel_rfl) (by simp) ?_;refine cO rfl (fun K hK=>?_) (cO rfl (fun K hK=>?_) dL)
   ·skip
    go_simp
    refine (EC _).mono ?_;rintro e w9 ⟨rfl,qP⟩;obtain⟨hs9,hk9,zG,nK⟩:=HX.1 _ w9 qP rfl;have k9:w9.cell? ⟨w.heap.size,0,none⟩=some (.int .i64 (j:Int)):=hk9.cell 0;clear qP;refine hK _ _ ?_;clear hK K;try simp only[ax,aF]
    refine dM (rs:=[2]) (by kernel_rfl) (by simp) ?_;refine cO rfl (fun K hK=>?_) dL;go_simp
    refine hK _ _ ?_;clear hK K;try simp only[ax,aF,aC]
    refine bV (i:=3) (v:=.pointer (some ⟨w.heap.size+1,j,none⟩)) rfl (by kernel_rfl) (by kernel_rfl) (by kernel_rfl) (fun _ _ _ h=>h) (Or.inl ⟨by rfl,fun w=>?_⟩) ?_
    ·go_simp
    try simp only[Act.put,ax,aF,aC]
    refine dM (rs:=[4]) (by kernel_rfl) (by simp) ?_;refine cO rfl (fun K hK=>?_) dL;go_simp
    refine hK _ _ ?_;clear hK K;try simp only[ax,aF,aC]
    refine dM (rs:=[5]) (by kernel_rfl) (by simp) ?_;refine cO rfl (fun K hK=>?_) dL;go_simp
    refine hK _ _ ?_;clear hK K;try simp only[ax,aF,aC]
    refine dM (rs:=[6]) (by kernel_rfl) (by simp) ?_;refine cO rfl (fun K hK=>?_) dL;go_simp
    refine hK _ _ ?_;clear hK K;try simp only[ax,aF,aC]
    refine wpAny_done (by kernel_rfl) ?_ _;go_step
    go_wp2_with fail
    go_meet
    case rel=>exact⟨w.heap.size+2,rfl,by have:=rZ w9 (w.heap.size+1) 9 #[.string (str (Rq.wd j))] 1 rfl (by decide) (by omega);rw[hs9] at this;exact this,nK.alloc (by omega) _,hk9.alloc _,by simp;omega⟩
   ·go_simp
    refine hK _ _ ?_;clear hK K;try simp only[ax,aF,aC]
    refine dM (rs:=[0]) (by kernel_rfl) (by simp) ?_;refine cO rfl (fun K hK=>?_) dL;go_simp
    refine (EC _).mono ?_;rintro e w9 ⟨rfl,qP⟩;obtain⟨hs9,hk9,zG,nK⟩:=HX.1 _ w9 qP rfl;have k9:w9.cell? ⟨w.heap.size,0,none⟩=some (.int .i64 (j:Int)):=hk9.cell 0;clear qP;refine hK _ _ ?_;clear hK K;try simp only[ax,aF]
    refine bV (i:=3) (v:=.pointer (some ⟨w.heap.size+1,j,none⟩)) rfl (by kernel_rfl) (by kernel_rfl) (by kernel_rfl) (fun _ _ _ h=>h) (Or.inl ⟨by rfl,fun w=>?_⟩) ?_
    ·go_simp
    try simp only[Act.put,ax,aF,aC]
    refine dM (rs:=[4]) (by kernel_rfl) (by simp) ?_;refine cO rfl (fun K hK=>?_) dL;go_simp
    refine hK _ _ ?_;clear hK K;try simp only[ax,aF,aC]
    refine dM (rs:=[5]) (by kernel_rfl) (by simp) ?_;refine cO rfl (fun K hK=>?_) dL;go_simp
    refine hK _ _ ?_;clear hK K;try simp only[ax,aF,aC]
    refine dM (rs:=[6]) (by kernel_rfl) (by simp) ?_;refine cO rfl (fun K hK=>?_) dL;go_simp
    refine hK _ _ ?_;clear hK K;try simp only[ax,aF,aC]
    refine wpAny_done (by kernel_rfl) ?_ _;go_step
    go_wp2_with fail
    go_meet
    case rel=>exact⟨w.heap.size+2,rfl,by have:=rZ w9 (w.heap.size+1) 9 #[.string (str (Rq.wd j))] 1 rfl (by decide) (by omega);rw[hs9] at this;exact this,nK.alloc (by omega) _,hk9.alloc _,by simp;omega⟩
  case rest=>
   obtain⟨G,rfl,ho,hb,hk,hg⟩:=hcut;have HO:=jP ho;have HB:=jP hb;have HK:=jP hk;have k0:wc.cell? ⟨w.heap.size,0,none⟩=some (.int .i64 (j:Int)):=hk.cell 0;have k1:wc.cell? ⟨w.heap.size,1,none⟩=some (.int .i64 ttl):=hk.cell 1;clear ho hb hk Ql;go_upto_if 42 with (refine (EF (j:Int) _).mono ?_;rintro e w9 ⟨rfl,rfl⟩)
   go_cut [4] (fun v4 wx=>∃ (ws:List (List UInt8)) (A4:Option Addr) (m c4:Nat),v4=.slice A4 m c4/\ws.length=m/\m<=2/\0<m/\Rq.uC (j:Int) ttl ns=ws++ns.map Rq.quote/\wx.ownsRow (w.heap.size+1) 9 1 (.slice A4 m c4) m (strs (ws.map str)) /\
    Below w.heap.size w wx/\Bk wx w.heap.size 71 #[.int .i64 (j:Int),.int .i64 ttl,.slice A n c]/\w.heap.size<wx.heap.size)
   case first=>
    have hjn:((j:Int)).toNat=j:=by omega
    cases MZ:Rq.oP (j:Int)
    ·have hfw:Rq.uC (j:Int) ttl ns=[Rq.wd j]++ns.map Rq.quote:=by unfold Rq.uC;rw[MZ,hjn];rfl
     have HF:=jP hfw;clear hfw MZ;go_wp2_with fail
     go_meet
     case rel=>exact⟨[Rq.wd j],_,1,1,rfl,rfl,by omega,by omega,HF.1,HO.1,HB.1,HK.1,hg⟩
    ·have hfw:Rq.uC (j:Int) ttl ns=[Rq.wd j,Lib.itoa ttl]++ns.map Rq.quote:=by unfold Rq.uC;rw[MZ,hjn];rfl
     have hbt:=HBT.1 MZ;have HF:=jP hfw;clear hfw MZ;have al8:=jP (Ry.1.past HB.1);go_wp2_with fail
     refine (abZ ttl (by omega) (by omega) _ al8.1).mono ?_;rintro e w5 ⟨rfl,hb5⟩;have hs5:=hb5.size;have nS:=jP (HB.1.trans (hb5.mono (by omega)));have RY:=jP (HK.1.below hb5 hg);have lD:=jP (kD HO.1 hb5);clear hb5;go_wp2_with (at_builtin;refine Dq (by rfl) _ _ rfl (base:=w.heap.size+1) (xs:=[str (Rq.wd j)]) rfl (lD.1.alloc _) rfl (qi w5 (str (Lib.itoa ttl))) (by omega) (by simp;omega) ?_)
     intro A6 c6 w6 kT Fb hc6;have mY:=jP (own_below (lH lD.1 (jJ _)) nS.1 _ Fb (by omega));have CB:=jP ((RY.1.alloc _).grown Fb (by intro e;have:=(lD.1.lt _ e.symm).1;omega));have hs6:w.heap.size<w6.heap.size:=by have:=Fb.size;simp at this;omega
     have lI:=jP (show w6.ownsRow (w.heap.size+1) 9 1 (.slice A6 2 c6) 2 (strs ([Rq.wd j,Lib.itoa ttl].map str)) from kT);clear kT Fb hc6;go_wp2_with fail
     go_meet
     case rel=>exact⟨[Rq.wd j,Lib.itoa ttl],A6,2,c6,rfl,rfl,by omega,by omega,HF.1,lI.1,mY.1,CB.1,hs6⟩
   case rest=>
    obtain⟨ws,A4,m,c4,rfl,hwm,hm2,hm0,hfw,kQ,hb4,hk4,hg4⟩:=hcut;have lC:=jP kQ;have HB4:=jP hb4;have FX:=jP hk4;have HF:=jP hfw;have HWM:=jP hwm;have k2:wc.cell? ⟨w.heap.size,2,none⟩=some (.slice A n c):=hk4.cell 2;clear kQ hb4 hk4 hfw hwm HO HB HK k0 k1;go_wp2_with fail
    go_loopw [4,52] (fun v4 vi wr=>∃ (k:Nat) (A5:Option Addr) (c5:Nat),k<=n/\vi=.int .i64 k/\v4=.slice A5 (m+k) c5/\wr.ownsRow (w.heap.size+1) 9 1 (.slice A5 (m+k) c5) (m+k) (strs ((ws++(ns.take k).map Rq.quote).map str)) /\
     Below w.heap.size w wr/\w.heap.size<wr.heap.size) (fun _ vi _=>n-(intOf vi).toNat)
    case atStart=>exact⟨0,A4,c4,by omega,rfl,rfl,by simpa using lC.1,HB4.1,hg4⟩
    case round=>
     obtain⟨k,A5,c5,hk,rfl,rfl,oK,hb5,hg5⟩:=hrel;have lD:=jP oK;have nS:=jP hb5;have v_:=jP (HR.1.below hb5);clear oK hb5;by_cases hlt:k<n
     ·obtain⟨x,hx⟩:∃ x,ns[k]?=some x:=⟨_,au (by omega)⟩;have hxm:=HM.1 x (ay hx);obtain⟨b,off,rfl,hbb,hcs⟩:=v_.1.2 (by rw[pF,bH];omega);have hc:wr.cell? ⟨b,off+k,none⟩=some (.string (str x)):=hcs k _ (by rw[xQ,List.getElem?_map,hx];rfl);have hts:=N8 hx ws;have yX:=jP hts;clear hcs hx hts;go_wp2_with fail
      refine (Yz (str x) (by rw[lT];omega) _).mono ?_;rw[oh];rintro e w6 ⟨rfl,hb6⟩;have hs6:=hb6.size;have mY:=jP (nS.1.trans (hb6.mono (by omega)));have lI:=jP (kD lD.1 hb6);clear hb6;go_wp2_with (at_builtin;refine Dq (by rfl) _ _ rfl (base:=w.heap.size+1) rfl (lI.1.alloc _) rfl (qi w6 (str (Rq.quote x))) (by omega) (by simp;omega) ?_)
      intro A7 c7 w7 mG mV qo;have tZ:=jP (own_below (lH lI.1 (jJ _)) mY.1 _ mV (by omega));have hs7:w.heap.size<w7.heap.size:=by have:=mV.size;simp at this;omega
      have mD:=jP (show w7.ownsRow (w.heap.size+1) 9 1 (.slice A7 (m+k+1) c7) (m+k+1) (strs ((ws++(ns.take (k+1)).map Rq.quote).map str)) by rw[yX.1];simpa using mG);clear mG mV qo;go_wp2
      go_roundw
      case rel=>exact⟨k+1,A7,c7,by omega,by go_num,rfl,mD.1,tZ.1,hs7⟩
      case measure=>simp[intOf];omega
     ·have hkn:k=n:=by omega
      have htk:ns.take k=ns:=by rw[hkn,<-hns,gJ]
      have kT:=lD.1;rw[htk,<-HF.1] at kT;have hcap:=afb kT;have Cf:=jP (Rd.kX kT);clear kT htk hkn;go_wp2_with fail
      refine (abV A5 (m+k) c5 (Rq.uC (j:Int) ttl ns) _ _ Cf.1 (by omega) (ag _) hcap (by omega) zN.1).mono ?_;rintro e w7 ⟨rfl,hb7⟩;have tZ:=jP (nS.1.trans (hb7.mono (by omega)));clear hb7;have hsz:(str (Rq.jn (Rq.uC (j:Int) ttl ns))).size=(Rq.qV (j:Int) ttl ns).length:=lT _;by_cases hbig:4096<(Rq.qV (j:Int) ttl ns).length
      ·have hv:=HV.1;rw[aj hbig] at hv;have uk:=jP hv;clear hv;go_wp2
       go_ret2
       exact⟨by rw[uk.1];rfl,tZ.1⟩
      ·have hv:=HV.1;rw[ah hbig] at hv;have uk:=jP hv;clear hv;go_wp2
       go_ret2
       exact⟨by rw[uk.1];rfl,tZ.1⟩
end Go.Proofs.YtkachcflifhgiaaGreatDoor
