import Derived.Test.YtobdaiaaejlbkaaSa6
import Derived.Test.YtobdaiaaejlbkaaSa7
namespace Go.Proofs.Ytobdaiaaejlbkaa.Pure
theorem StateRight : Go.Proofs.Ytobdaiaaejlbkaa.S.heliastlaw13_StateRight.Pure := Go.Proofs.Ytobdaiaaejlbkaa.S.StateRight_pure
end Go.Proofs.Ytobdaiaaejlbkaa.Pure
