import Derived.Test.YtbldllghkfgkeaaGf5
import Derived.Test.YtbldllghkfgkeaaGf6
namespace Go.Proofs.Ytbldllghkfgkeaa.Pure
theorem GraphStep : Go.Proofs.Ytbldllghkfgkeaa.S.heliastlaw12_GraphStep.Pure := Go.Proofs.Ytbldllghkfgkeaa.S.GraphStep_pure
end Go.Proofs.Ytbldllghkfgkeaa.Pure
