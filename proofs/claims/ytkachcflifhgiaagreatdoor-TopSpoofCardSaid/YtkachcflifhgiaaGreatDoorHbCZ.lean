/-  -/
import Derived.Test.YtkachcflifhgiaaGreatDoorGzKZ
set_option linter.unusedVariables false
set_option maxRecDepth 100000
set_option maxHeartbeats 16000000
namespace Go.Proofs.YtkachcflifhgiaaGreatDoor
open Go Go.RowKit Go.Shelf
theorem NY (a0:Option Addr)(c0:Nat)(x0:List Int)(a1:Option Addr)(c1:Nat)(x1:List Int)(a2:Option Addr)(c2:Nat)(x2:List Int)(a3:Int)(w:World)(r0:Rd w w.heap.size 1 a0 x0.length (DY .i64 x0))(m0:x0.length<=maxLen)(f0:∀ n∈x0,(Lit.int .i64 n).wf=true)
  (r1:Rd w w.heap.size 1 a1 x1.length (DY .i64 x1)) (m1:x1.length<=maxLen) (f1:∀ n∈x1,(Lit.int .i64 n).wf=true) (r2:Rd w w.heap.size 1 a2 x2.length (DY .i64 x2)) (m2:x2.length<=maxLen) (f2:∀ n∈x2,(Lit.int .i64 n).wf=true) (w3:(Lit.int .i64 a3).wf=true) (ht:Tb w) (hb:xg w w.heap.size) :
  Calls Tryz.prog 3 #[.slice a0 x0.length c0,.slice a1 x1.length c1,.slice a2 x2.length c2,.int .i64 a3] w fun e w'=>e=.returned (.bool true)/\Below w.heap.size w w':=
 KH X3 a0 c0 x0 a1 c1 x1 a2 c2 x2 a3 w r0 m0 r1 m1 r2 m2 ht hb
end Go.Proofs.YtkachcflifhgiaaGreatDoor
