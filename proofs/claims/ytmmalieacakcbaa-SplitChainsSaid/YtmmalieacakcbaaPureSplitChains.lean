import Derived.Test.YtmmalieacakcbaaHf7
import Derived.Test.YtmmalieacakcbaaHf9
namespace Go.Proofs.Ytmmalieacakcbaa.Pure
theorem SplitChains : Go.Proofs.Ytmmalieacakcbaa.S.heliastlaw16_SplitChains.Pure := Go.Proofs.Ytmmalieacakcbaa.S.SplitChains_pure
end Go.Proofs.Ytmmalieacakcbaa.Pure
