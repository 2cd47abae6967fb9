-- Out of what print.sh laid for this seat: the words that this claim reaches (left out by this session's shake.py).
import Derived.Test.YtbmgajddhfjchaaDoorCtWN
/-! ### 52. A row that stays read whatever happens to a block (a set of blocks) doesn't lie there -/
namespace Go.Proofs.YtbmgajddhfjchaaDoorW.PrintWords
open Go.RowKit
namespace Kd
section
variable {α : Type} {d : Kd α} {W : World} {g n : Nat} {S ok : Nat → Prop} {A : Option Addr} {ad : Addr} {xs : List α}
end
end Kd
end Go.Proofs.YtbmgajddhfjchaaDoorW.PrintWords
