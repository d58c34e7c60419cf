import Derived.Test.YtbldllghkfgkeaaGb4
import Derived.Test.YtbldllghkfgkeaaGb5
namespace Go.Proofs.Ytbldllghkfgkeaa.Pure
theorem GraphNatural : Go.Proofs.Ytbldllghkfgkeaa.S.heliastlaw12_GraphNatural.Pure := Go.Proofs.Ytbldllghkfgkeaa.S.GraphNatural_pure
end Go.Proofs.Ytbldllghkfgkeaa.Pure
