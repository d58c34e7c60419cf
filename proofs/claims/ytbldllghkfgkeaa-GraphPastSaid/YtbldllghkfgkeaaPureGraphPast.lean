import Derived.Test.YtbldllghkfgkeaaGd4
import Derived.Test.YtbldllghkfgkeaaGd5
namespace Go.Proofs.Ytbldllghkfgkeaa.Pure
theorem GraphPast : Go.Proofs.Ytbldllghkfgkeaa.S.heliastlaw12_GraphPast.Pure := Go.Proofs.Ytbldllghkfgkeaa.S.GraphPast_pure
end Go.Proofs.Ytbldllghkfgkeaa.Pure
