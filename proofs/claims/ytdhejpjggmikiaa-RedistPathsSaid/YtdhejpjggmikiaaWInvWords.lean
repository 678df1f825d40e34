import Derived.Test.YtdhejpjggmikiaaWInv
import Derived.Test.YtdhejpjggmikiaaWFootNe
namespace Go.Proofs.YtdhejpjggmikiaaW.PrintWords
open Go.RowKit
end Go.Proofs.YtdhejpjggmikiaaW.PrintWords
namespace Go.Proofs.YtdhejpjggmikiaaW.PrintLast
section
variable {ops : Array Oper} {a : Act} {o og : Oper} {g : Nat} {t : Tmp} {u : Bool}
end
end Go.Proofs.YtdhejpjggmikiaaW.PrintLast
