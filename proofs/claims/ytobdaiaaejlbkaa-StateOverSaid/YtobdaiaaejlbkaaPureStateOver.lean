import Derived.Test.YtobdaiaaejlbkaaSb7
import Derived.Test.YtobdaiaaejlbkaaSb8
namespace Go.Proofs.Ytobdaiaaejlbkaa.Pure
theorem StateOver : Go.Proofs.Ytobdaiaaejlbkaa.S.heliastlaw13_StateOver.Pure := Go.Proofs.Ytobdaiaaejlbkaa.S.StateOver_pure
end Go.Proofs.Ytobdaiaaejlbkaa.Pure
