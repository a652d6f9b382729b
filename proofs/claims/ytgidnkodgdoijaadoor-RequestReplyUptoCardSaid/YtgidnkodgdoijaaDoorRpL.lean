/- What Reply writes, as words. -/
import Derived.Test.YtgidnkodgdoijaaDoorRqI
namespace Go.Proofs.YtgidnkodgdoijaaDoor
open Go Go.RowKit Go.Proofs
set_option linter.unusedVariables false

/-- The words of a reply: op, the error, at, tick, the name; the record's state, owner, deadline, name. -/
def Rq.rws (op er att tk : Int) (nm : List UInt8) (st ow dl : Int) (rn : List UInt8) : List (List UInt8) :=
  if er ≠ 0 then [[69, 82, 82], Lib.itoa er, Lib.itoa att, Lib.itoa tk, Rq.quote nm]
  else if op = 7 ∧ st = 1 then [[72, 69, 76, 68], Lib.itoa ow, Lib.itoa dl, Rq.quote rn, Lib.itoa tk]
  else if op = 7 ∧ st = 2 then [[67, 79, 78, 70, 73, 82, 77, 69, 68], Lib.itoa ow, Rq.quote rn, Lib.itoa tk]
  else if op = 7 then [[70, 82, 69, 69], Lib.itoa tk]
  else [[79, 75], Lib.itoa tk]
def Rq.rpl (op er att tk : Int) (nm : List UInt8) (st ow dl : Int) (rn : List UInt8) : List UInt8 := Rq.jn (Rq.rws op er att tk nm st ow dl rn)
end Go.Proofs.YtgidnkodgdoijaaDoor
