-- PRINTED BY print.sh 35421559b90ae4d0a3588c463048766b98c2df88dd9212a6774a882060cdf62d: not written by this session
import Derived.Test.YtimljcnmochmnaaWInv
import Derived.Test.YtimljcnmochmnaaWFootNe
namespace Go.Proofs.YtimljcnmochmnaaW.PrintWords
open Go.RowKit
end Go.Proofs.YtimljcnmochmnaaW.PrintWords
namespace Go.Proofs.YtimljcnmochmnaaW.PrintLast
section
variable {ops : Array Oper} {a : Act} {o og : Oper} {g : Nat} {t : Tmp} {u : Bool}
end
end Go.Proofs.YtimljcnmochmnaaW.PrintLast
