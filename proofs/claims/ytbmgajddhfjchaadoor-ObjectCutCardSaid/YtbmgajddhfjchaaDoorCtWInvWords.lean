-- Out of what print.sh laid for this seat: the words that this claim reaches (left out by this session's shake.py).
import Derived.Test.YtbmgajddhfjchaaDoorCtWInv
import Derived.Test.YtbmgajddhfjchaaDoorCtWFootNe
namespace Go.Proofs.YtbmgajddhfjchaaDoorW.PrintWords
open Go.RowKit
end Go.Proofs.YtbmgajddhfjchaaDoorW.PrintWords
namespace Go.Proofs.YtbmgajddhfjchaaDoorW.PrintLast
section
variable {ops : Array Oper} {a : Act} {o og : Oper} {g : Nat} {t : Tmp} {u : Bool}
end
end Go.Proofs.YtbmgajddhfjchaaDoorW.PrintLast
