import Derived.Test.YtmmalieacakcbaaHd8
import Derived.Test.YtmmalieacakcbaaHd9
namespace Go.Proofs.Ytmmalieacakcbaa.Pure
theorem SplitBoth : Go.Proofs.Ytmmalieacakcbaa.S.heliastlaw16_SplitBoth.Pure := Go.Proofs.Ytmmalieacakcbaa.S.SplitBoth_pure
end Go.Proofs.Ytmmalieacakcbaa.Pure
