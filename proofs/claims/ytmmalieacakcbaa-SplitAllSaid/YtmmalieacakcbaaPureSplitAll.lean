import Derived.Test.YtmmalieacakcbaaHc8
import Derived.Test.YtmmalieacakcbaaHc10
namespace Go.Proofs.Ytmmalieacakcbaa.Pure
theorem SplitAll : Go.Proofs.Ytmmalieacakcbaa.S.heliastlaw16_SplitAll.Pure := Go.Proofs.Ytmmalieacakcbaa.S.SplitAll_pure
end Go.Proofs.Ytmmalieacakcbaa.Pure
