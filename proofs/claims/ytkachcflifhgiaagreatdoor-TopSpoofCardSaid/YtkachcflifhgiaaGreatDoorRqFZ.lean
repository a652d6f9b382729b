/-  -/
import Derived.Test.YtkachcflifhgiaaGreatDoorProg
import Derived.Test.YtkachcflifhgiaaGreatDoorM03
import Derived.Shelf.Small.Strs
set_option linter.unusedVariables false
set_option maxRecDepth 100000
set_option maxHeartbeats 16000000
namespace Go.Proofs.YtkachcflifhgiaaGreatDoor
theorem bM:type_of% @Go.Proofs.Tryz.underlying3:=@Go.Proofs.Tryz.underlying3
theorem dO:type_of% @Go.Proofs.Tryz.underlying5:=@Go.Proofs.Tryz.underlying5
theorem dW:type_of% @Go.Proofs.Tryz.underlying9:=@Go.Proofs.Tryz.underlying9
theorem fA:type_of% @Go.Proofs.enters_of:=@Go.Proofs.enters_of
theorem gX:type_of% @Go.Proofs.Tryz.zeroValue3:=@Go.Proofs.Tryz.zeroValue3
theorem iK:type_of% @Go.Proofs.Tryz.zeroValue5:=@Go.Proofs.Tryz.zeroValue5
theorem jk:type_of% @Go.Proofs.Tryz.zeroValue9:=@Go.Proofs.Tryz.zeroValue9
open Go Go.RowKit Go.Proofs
def afs:Go.Shelf.Ren:=⟨fun | 137=>176 | 217=>235 | 266=>282 | n=>n,
 fun | 3=>3 | 5=>5 | 9=>9 | n=>n,fun | n=>n⟩
theorem abY:Lays.n137 Tryz.prog afs:={
 mixed:=by kernel_rfl
 f137:=Tryz.func176.trans (aV some (by kernel_rfl))
 f217:=Tryz.func235.trans (aV some (by kernel_rfl))
 f266:=Tryz.func282.trans (aV some (by kernel_rfl))
 t3:=bM
 a3:=Tryz.isAgg3
 z3:=Tryz.sizeOf3
 v3:=gX
 t5:=dO
 a5:=Tryz.isAgg5
 z5:=Tryz.sizeOf5
 v5:=iK
 t9:=dW
 a9:=Tryz.isAgg9
 z9:=Tryz.sizeOf9
 v9:=jk }
theorem abu {b:UInt8}(h:¬(33<=b.toNat/\b.toNat<=126/\b.toNat≠34/\b.toNat≠37)):Rq.pl b=false:=bD h
theorem ae6 {b:UInt8}(h:33<=b.toNat/\b.toNat<=126/\b.toNat≠34/\b.toNat≠37):Rq.pl b=true:=bT h
theorem MJ (b:UInt8)(w:World):Calls Tryz.prog 114 #[.int .u8 (b.toNat:Int)] w fun e w'=>e=.returned (.bool (Rq.pl b))/\w'=w:=by
 have h:((b.toNat:Int)<33/\Rq.pl b=false)\/((33<=(b.toNat:Int)/\126<(b.toNat:Int))/\Rq.pl b=false)\/((b.toNat:Int)=34/\Rq.pl b=false)\/((b.toNat:Int)=37/\Rq.pl b=false) \/
   ((33<=(b.toNat:Int)/\(b.toNat:Int)<=126/\(b.toNat:Int)≠34/\(b.toNat:Int)≠37)/\Rq.pl b=true):=by
  by_cases h:33<=b.toNat/\b.toNat<=126/\b.toNat≠34/\b.toNat≠37
  ·right;right;right;right;exact⟨by omega,ae6 h⟩
  ·have hf:=abu h;by_cases h1:b.toNat<33
   ·left;exact⟨by omega,hf⟩
   by_cases h2:126<b.toNat
   ·right;left;exact⟨by omega,hf⟩
   by_cases h3:b.toNat=34
   ·right;right;left;exact⟨by omega,hf⟩
   ·right;right;right;left;exact⟨by omega,hf⟩
 generalize Rq.pl b=p at *;generalize (b.toNat:Int)=c at *;rcases h with ⟨h,rfl⟩ | ⟨⟨h1,h2⟩,rfl⟩ | ⟨rfl,rfl⟩ | ⟨rfl,rfl⟩ | ⟨⟨h1,h2,h3,h4⟩,rfl⟩
 all_goals
  go_enter Tryz.func114,Tryz.ntmps114
  go_wp2
  go_ret
  first | exact⟨rfl,rfl⟩ | exact⟨aV (fun b=>Ending.returned (.bool b)) (by simp[*]),rfl⟩
theorem ab_ (b:UInt8):Lib.indexByte [48,49,50,51,52,53,54,55,56,57,65,66,67,68,69,70] b=Rq.hx b:=by
 have:∀ n:Fin 256,Lib.indexByte [48,49,50,51,52,53,54,55,56,57,65,66,67,68,69,70] (UInt8.ofNat n.val)=Rq.hx (UInt8.ofNat n.val):=by decide +kernel
 have h:=this ⟨b.toNat,b.toNat_lt⟩;simpa using h
theorem Dk (b:UInt8)(w:World):Calls Tryz.prog 115 #[.int .u8 (b.toNat:Int)] w fun e w'=>e=.returned (.int .i64 (Rq.hx b))/\w'=w:=by
 go_enter Tryz.func115,Tryz.ntmps115
 go_wp2_with fail
 refine (Any.strings_IndexByte abY ⟨#[48,49,50,51,52,53,54,55,56,57,65,66,67,68,69,70]⟩ (b.toNat:Int) _).mono ?_;rintro e w1 ⟨rfl,rfl⟩;go_wp2
 go_ret
 refine⟨?_,rfl⟩;rw[<-ab_];simp
theorem EF (c:Int)(w:World):Calls Tryz.prog 62 #[.int .i64 c] w fun e w'=>e=.returned (.bool (Rq.oP c))/\w'=w:=by
 have h:(c=1/\Rq.oP c=true)\/(c=3/\Rq.oP c=true)\/(c≠1/\c≠3/\Rq.oP c=false):=by
  unfold Rq.oP;by_cases h1:c=1
  ·left;exact⟨h1,bT (.inl h1)⟩
  ·by_cases h3:c=3
   ·right;left;exact⟨h3,bT (.inr h3)⟩
   ·right;right;exact⟨h1,h3,bD (by omega)⟩
 generalize Rq.oP c=p at *;rcases h with ⟨rfl,rfl⟩ | ⟨rfl,rfl⟩ | ⟨h1,h2,rfl⟩
 all_goals
  go_enter Tryz.func62,Tryz.ntmps62
  go_wp2
  go_ret
  first | exact⟨rfl,rfl⟩ | exact⟨aV (fun b=>Ending.returned (.bool b)) (by simp[*]),rfl⟩
theorem TW (c n:Int)(w:World):Calls Tryz.prog 65 #[.int .i64 c,.int .i64 n] w fun e w'=>e=.returned (.bool (Rq.ttl c n))/\w'=w:=by
 have HT:=jP (EF c);have h:(Rq.oP c=true/\n<1/\Rq.ttl c n=false)\/(Rq.oP c=true/\1<=n/\n<=1073741824/\Rq.ttl c n=true)\/(Rq.oP c=true/\1073741824<n/\Rq.ttl c n=false) \/
   (Rq.oP c=false/\n=0/\Rq.ttl c n=true)\/(Rq.oP c=false/\n≠0/\Rq.ttl c n=false):=by
  unfold Rq.ttl;cases Rq.oP c
  ·simp;omega
  ·simp;omega
 generalize Rq.oP c=p at *;generalize Rq.ttl c n=q at *;rcases h with ⟨rfl,h1,rfl⟩ | ⟨rfl,h1,h2,rfl⟩ | ⟨rfl,h1,rfl⟩ | ⟨rfl,rfl,rfl⟩ | ⟨rfl,h1,rfl⟩
 all_goals
  go_enter Tryz.func65,Tryz.ntmps65
  go_wp2_with fail
  refine (HT.1 _).mono ?_;rintro e w1 ⟨rfl,rfl⟩;go_wp2
  go_ret
  first | exact⟨rfl,rfl⟩ | exact⟨aV (fun b=>Ending.returned (.bool b)) (by simp[*]),rfl⟩
end Go.Proofs.YtkachcflifhgiaaGreatDoor
