import Derived.Test.YtobdaiaaejlbkaaSc6
import Derived.Test.YtobdaiaaejlbkaaSc7
namespace Go.Proofs.Ytobdaiaaejlbkaa.Pure
theorem StateBoth : Go.Proofs.Ytobdaiaaejlbkaa.S.heliastlaw13_StateBoth.Pure := Go.Proofs.Ytobdaiaaejlbkaa.S.StateBoth_pure
end Go.Proofs.Ytobdaiaaejlbkaa.Pure
