/- redlineref04.Leaf, redlineref04.Elem: the contracts. -/
import Derived.Test.YtgnlgfkolbecmaaConv
import Derived.Test.YtgnlgfkolbecmaaChecked
import Derived.Outline
namespace Go.Proofs.Ytgnlgfkolbecmaa
open Go Go.RowKit

def typeKey : ByteArray := { data := #[116, 121, 112, 101] }

end Go.Proofs.Ytgnlgfkolbecmaa
