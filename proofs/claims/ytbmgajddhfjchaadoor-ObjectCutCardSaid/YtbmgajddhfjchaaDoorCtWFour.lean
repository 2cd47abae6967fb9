-- Out of what print.sh laid for this seat: the words that this claim reaches (left out by this session's shake.py).
import Derived.Test.YtbmgajddhfjchaaDoorCtWTab
/-! ### 56. Four, five, six operations that may come up next, in any order -/
namespace Go.Proofs.YtbmgajddhfjchaaDoorW.PrintLast
section
variable {P : Program} {ops : Array Oper} {Q : Exit → Act → World → Prop} {md : Region.Mode} {S : World → Prop} {ds : List Nat} {T : Bool × List (List Nat × List Nat)}
end
end Go.Proofs.YtbmgajddhfjchaaDoorW.PrintLast
