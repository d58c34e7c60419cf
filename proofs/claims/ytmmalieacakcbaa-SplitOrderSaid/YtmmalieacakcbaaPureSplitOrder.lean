import Derived.Test.YtmmalieacakcbaaHg7
import Derived.Test.YtmmalieacakcbaaHg9
namespace Go.Proofs.Ytmmalieacakcbaa.Pure
theorem SplitOrder : Go.Proofs.Ytmmalieacakcbaa.S.heliastlaw16_SplitOrder.Pure := Go.Proofs.Ytmmalieacakcbaa.S.SplitOrder_pure
end Go.Proofs.Ytmmalieacakcbaa.Pure
