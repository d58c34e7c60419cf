import Derived.Test.YtbldllghkfgkeaaGe5
import Derived.Test.YtbldllghkfgkeaaGe5
namespace Go.Proofs.Ytbldllghkfgkeaa.Pure
theorem GraphOrder : Go.Proofs.Ytbldllghkfgkeaa.S.heliastlaw12_GraphOrder.Pure := Go.Proofs.Ytbldllghkfgkeaa.S.GraphOrder_pure
end Go.Proofs.Ytbldllghkfgkeaa.Pure
