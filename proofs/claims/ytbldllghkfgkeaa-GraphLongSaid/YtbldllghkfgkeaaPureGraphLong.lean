import Derived.Test.YtbldllghkfgkeaaGa4
import Derived.Test.YtbldllghkfgkeaaGa4
namespace Go.Proofs.Ytbldllghkfgkeaa.Pure
theorem GraphLong : Go.Proofs.Ytbldllghkfgkeaa.S.heliastlaw12_GraphLong.Pure := Go.Proofs.Ytbldllghkfgkeaa.S.GraphLong_pure
end Go.Proofs.Ytbldllghkfgkeaa.Pure
