import Derived.Test.YtmmalieacakcbaaHa5
import Derived.Test.YtmmalieacakcbaaHa6
namespace Go.Proofs.Ytmmalieacakcbaa.Pure
theorem GraphHeads : Go.Proofs.Ytmmalieacakcbaa.S.heliastlaw12_GraphHeads.Pure := Go.Proofs.Ytmmalieacakcbaa.S.GraphHeads_pure
end Go.Proofs.Ytmmalieacakcbaa.Pure
