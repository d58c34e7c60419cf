import Derived.Test.YtbldllghkfgkeaaGc4
import Derived.Test.YtbldllghkfgkeaaGc5
namespace Go.Proofs.Ytbldllghkfgkeaa.Pure
theorem GraphReach : Go.Proofs.Ytbldllghkfgkeaa.S.heliastlaw12_GraphReach.Pure := Go.Proofs.Ytbldllghkfgkeaa.S.GraphReach_pure
end Go.Proofs.Ytbldllghkfgkeaa.Pure
