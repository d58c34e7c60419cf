/-
  No cell of these rows narrows 'for every input' (looked for: loops, veiled, ifaces, maps, wideKeys, modest, calm, conditions, laid).
  DERIVED. THE GIVEN ROWS OF THIS SEAT. 30 by the template 'for every input the law returns true; each argument reads behind the call as it read before'; 0 by the template 'total and deterministic' (their statements: YtobdaiaaejlbkaaTotals.lean).
  GIVEN WITH THE SEED: the statements are not yours to turn. If you find one false, say at which input.
  Laid BY PROGRAM, IN A SANDBOX (cutbox-rows.mjs): the forced cells as the released guide's own fill.sh prints them over the translation ccfac8828b40556d… (all of the seat's roots in one cut). By AI agents, Wed Nov 11 2026. No macro, syntax, notation, axiom, sorry.
-/
import Derived.Test.YtobdaiaaejlbkaaChecked
import GoSem.Claim
import GoSem.ClaimJoined
import GoSem.ClaimMapViews
import Derived.JoinedTies
import Derived.KernelRfl
namespace Go.Proofs.Ytobdaiaaejlbkaa
/- THE CELL 'sum', in the pinned program and in every row, IS THE sha256 OF THE DUMP (.gsa) THAT YtobdaiaaejlbkaaProg.lean LOADS. Nothing in Lean hashes anything: it is a label: what it is worth is what the hold of that sum in a sandbox is worth. -/
noncomputable def Try.pinned : Pinned := { name := "ytobdaiaaejlbkaa", sum := "ccfac8828b40556d8638a2a2117f0ad9225d769b70157a0ba3bcdea80202049b", checked := Try.checked }
namespace Rows
def none {H : Type} : Left H := { results := [], args := [] }

/-- 'heliastlaw20.ParkOut': WHATEVER THE INPUT: true; the input reads as it did. -/
def parkOutSpec : ChangeSpec := { name := "parkOut", fn := fun _ => fun
  | [d1, d2] => { results := [.lit (.bool true)], args := [d1, d2] }
  | _ => none }
def parkOutRow : OpenClaim := { program := "ytobdaiaaejlbkaa", sum := "ccfac8828b40556d8638a2a2117f0ad9225d769b70157a0ba3bcdea80202049b", func := "heliast/heliastlaw20.ParkOut", spec := "parkOut", unfollowed := true, recurses := true, plainKeys := false, apart := false }
def ParkOutSaid : Prop := parkOutRow.holds Try.pinned (OpenSpec.ofChange parkOutSpec)

/-- ITS FALSE NEIGHBOUR: 'it returns false'. Refute it at one input. -/
def parkOutWrong : ChangeSpec := { name := "parkOut", fn := fun _ => fun
  | [d1, d2] => { results := [.lit (.bool false)], args := [d1, d2] }
  | _ => none }
def ParkOutWrongFalsely : Prop := parkOutRow.holds Try.pinned (OpenSpec.ofChange parkOutWrong)

/-- 'heliastlaw20.ParkTwice': WHATEVER THE INPUT: true; the input reads as it did. -/
def parkTwiceSpec : ChangeSpec := { name := "parkTwice", fn := fun _ => fun
  | [d1, d2] => { results := [.lit (.bool true)], args := [d1, d2] }
  | _ => none }
def parkTwiceRow : OpenClaim := { program := "ytobdaiaaejlbkaa", sum := "ccfac8828b40556d8638a2a2117f0ad9225d769b70157a0ba3bcdea80202049b", func := "heliast/heliastlaw20.ParkTwice", spec := "parkTwice", unfollowed := true, recurses := true, plainKeys := false, apart := false }
def ParkTwiceSaid : Prop := parkTwiceRow.holds Try.pinned (OpenSpec.ofChange parkTwiceSpec)

/-- ITS FALSE NEIGHBOUR: 'it returns false'. Refute it at one input. -/
def parkTwiceWrong : ChangeSpec := { name := "parkTwice", fn := fun _ => fun
  | [d1, d2] => { results := [.lit (.bool false)], args := [d1, d2] }
  | _ => none }
def ParkTwiceWrongFalsely : Prop := parkTwiceRow.holds Try.pinned (OpenSpec.ofChange parkTwiceWrong)

/-- 'heliastlaw17.OrderMainline': WHATEVER THE INPUT: true; the input reads as it did. -/
def orderMainlineSpec : ChangeSpec := { name := "orderMainline", fn := fun _ => fun
  | [d1, d2] => { results := [.lit (.bool true)], args := [d1, d2] }
  | _ => none }
def orderMainlineRow : OpenClaim := { program := "ytobdaiaaejlbkaa", sum := "ccfac8828b40556d8638a2a2117f0ad9225d769b70157a0ba3bcdea80202049b", func := "heliast/heliastlaw17.OrderMainline", spec := "orderMainline", unfollowed := true, recurses := true, plainKeys := false, apart := false }
def OrderMainlineSaid : Prop := orderMainlineRow.holds Try.pinned (OpenSpec.ofChange orderMainlineSpec)

/-- ITS FALSE NEIGHBOUR: 'it returns false'. Refute it at one input. -/
def orderMainlineWrong : ChangeSpec := { name := "orderMainline", fn := fun _ => fun
  | [d1, d2] => { results := [.lit (.bool false)], args := [d1, d2] }
  | _ => none }
def OrderMainlineWrongFalsely : Prop := orderMainlineRow.holds Try.pinned (OpenSpec.ofChange orderMainlineWrong)

/-- 'heliastlaw17.OrderLevel': WHATEVER THE INPUT: true; the input reads as it did. -/
def orderLevelSpec : ChangeSpec := { name := "orderLevel", fn := fun _ => fun
  | [d1, d2] => { results := [.lit (.bool true)], args := [d1, d2] }
  | _ => none }
def orderLevelRow : OpenClaim := { program := "ytobdaiaaejlbkaa", sum := "ccfac8828b40556d8638a2a2117f0ad9225d769b70157a0ba3bcdea80202049b", func := "heliast/heliastlaw17.OrderLevel", spec := "orderLevel", unfollowed := true, recurses := true, plainKeys := false, apart := false }
def OrderLevelSaid : Prop := orderLevelRow.holds Try.pinned (OpenSpec.ofChange orderLevelSpec)

/-- ITS FALSE NEIGHBOUR: 'it returns false'. Refute it at one input. -/
def orderLevelWrong : ChangeSpec := { name := "orderLevel", fn := fun _ => fun
  | [d1, d2] => { results := [.lit (.bool false)], args := [d1, d2] }
  | _ => none }
def OrderLevelWrongFalsely : Prop := orderLevelRow.holds Try.pinned (OpenSpec.ofChange orderLevelWrong)

/-- 'heliastlaw13.StateRight': WHATEVER THE INPUT: true; the input reads as it did. -/
def stateRightSpec : ChangeSpec := { name := "stateRight", fn := fun _ => fun
  | [d1, d2] => { results := [.lit (.bool true)], args := [d1, d2] }
  | _ => none }
def stateRightRow : OpenClaim := { program := "ytobdaiaaejlbkaa", sum := "ccfac8828b40556d8638a2a2117f0ad9225d769b70157a0ba3bcdea80202049b", func := "heliast/heliastlaw13.StateRight", spec := "stateRight", inPlace := ["slices.overlaps[heliast/api.Entry]"], unfollowed := true, recurses := true, plainKeys := false, apart := false }
def StateRightSaid : Prop := stateRightRow.holds Try.pinned (OpenSpec.ofChange stateRightSpec)

/-- ITS FALSE NEIGHBOUR: 'it returns false'. Refute it at one input. -/
def stateRightWrong : ChangeSpec := { name := "stateRight", fn := fun _ => fun
  | [d1, d2] => { results := [.lit (.bool false)], args := [d1, d2] }
  | _ => none }
def StateRightWrongFalsely : Prop := stateRightRow.holds Try.pinned (OpenSpec.ofChange stateRightWrong)

/-- 'heliastlaw13.StatePut': WHATEVER THE INPUT: true; the input reads as it did. -/
def statePutSpec : ChangeSpec := { name := "statePut", fn := fun _ => fun
  | [d1, d2, d3] => { results := [.lit (.bool true)], args := [d1, d2, d3] }
  | _ => none }
def statePutRow : OpenClaim := { program := "ytobdaiaaejlbkaa", sum := "ccfac8828b40556d8638a2a2117f0ad9225d769b70157a0ba3bcdea80202049b", func := "heliast/heliastlaw13.StatePut", spec := "statePut", inPlace := ["slices.overlaps[heliast/api.Entry]"], unfollowed := true, recurses := true, plainKeys := false, apart := false }
def StatePutSaid : Prop := statePutRow.holds Try.pinned (OpenSpec.ofChange statePutSpec)

/-- ITS FALSE NEIGHBOUR: 'it returns false'. Refute it at one input. -/
def statePutWrong : ChangeSpec := { name := "statePut", fn := fun _ => fun
  | [d1, d2, d3] => { results := [.lit (.bool false)], args := [d1, d2, d3] }
  | _ => none }
def StatePutWrongFalsely : Prop := statePutRow.holds Try.pinned (OpenSpec.ofChange statePutWrong)

/-- 'heliastlaw13.StateOver': WHATEVER THE INPUT: true; the input reads as it did. -/
def stateOverSpec : ChangeSpec := { name := "stateOver", fn := fun _ => fun
  | [d1, d2] => { results := [.lit (.bool true)], args := [d1, d2] }
  | _ => none }
def stateOverRow : OpenClaim := { program := "ytobdaiaaejlbkaa", sum := "ccfac8828b40556d8638a2a2117f0ad9225d769b70157a0ba3bcdea80202049b", func := "heliast/heliastlaw13.StateOver", spec := "stateOver", inPlace := ["slices.overlaps[heliast/api.Entry]"], unfollowed := true, recurses := true, plainKeys := false, apart := false }
def StateOverSaid : Prop := stateOverRow.holds Try.pinned (OpenSpec.ofChange stateOverSpec)

/-- ITS FALSE NEIGHBOUR: 'it returns false'. Refute it at one input. -/
def stateOverWrong : ChangeSpec := { name := "stateOver", fn := fun _ => fun
  | [d1, d2] => { results := [.lit (.bool false)], args := [d1, d2] }
  | _ => none }
def StateOverWrongFalsely : Prop := stateOverRow.holds Try.pinned (OpenSpec.ofChange stateOverWrong)

/-- 'heliastlaw13.StateBoth': WHATEVER THE INPUT: true; the input reads as it did. -/
def stateBothSpec : ChangeSpec := { name := "stateBoth", fn := fun _ => fun
  | [d1, d2, d3] => { results := [.lit (.bool true)], args := [d1, d2, d3] }
  | _ => none }
def stateBothRow : OpenClaim := { program := "ytobdaiaaejlbkaa", sum := "ccfac8828b40556d8638a2a2117f0ad9225d769b70157a0ba3bcdea80202049b", func := "heliast/heliastlaw13.StateBoth", spec := "stateBoth", inPlace := ["slices.overlaps[heliast/api.Entry]"], unfollowed := true, recurses := true, plainKeys := false, apart := false }
def StateBothSaid : Prop := stateBothRow.holds Try.pinned (OpenSpec.ofChange stateBothSpec)

/-- ITS FALSE NEIGHBOUR: 'it returns false'. Refute it at one input. -/
def stateBothWrong : ChangeSpec := { name := "stateBoth", fn := fun _ => fun
  | [d1, d2, d3] => { results := [.lit (.bool false)], args := [d1, d2, d3] }
  | _ => none }
def StateBothWrongFalsely : Prop := stateBothRow.holds Try.pinned (OpenSpec.ofChange stateBothWrong)

/-- 'heliastlaw20.ParkDoes': WHATEVER THE INPUT: true; the input reads as it did. -/
def parkDoesSpec : ChangeSpec := { name := "parkDoes", fn := fun _ => fun
  | [d] => { results := [.lit (.bool true)], args := [d] }
  | _ => none }
def parkDoesRow : OpenClaim := { program := "ytobdaiaaejlbkaa", sum := "ccfac8828b40556d8638a2a2117f0ad9225d769b70157a0ba3bcdea80202049b", func := "heliast/heliastlaw20.ParkDoes", spec := "parkDoes", unfollowed := true, recurses := true, plainKeys := false, apart := false }
def ParkDoesSaid : Prop := parkDoesRow.holds Try.pinned (OpenSpec.ofChange parkDoesSpec)

/-- ITS FALSE NEIGHBOUR: 'it returns false'. Refute it at one input. -/
def parkDoesWrong : ChangeSpec := { name := "parkDoes", fn := fun _ => fun
  | [d] => { results := [.lit (.bool false)], args := [d] }
  | _ => none }
def ParkDoesWrongFalsely : Prop := parkDoesRow.holds Try.pinned (OpenSpec.ofChange parkDoesWrong)

/-- 'heliastlaw20.ParkBusy': WHATEVER THE INPUT: true; the input reads as it did. -/
def parkBusySpec : ChangeSpec := { name := "parkBusy", fn := fun _ => fun
  | [d] => { results := [.lit (.bool true)], args := [d] }
  | _ => none }
def parkBusyRow : OpenClaim := { program := "ytobdaiaaejlbkaa", sum := "ccfac8828b40556d8638a2a2117f0ad9225d769b70157a0ba3bcdea80202049b", func := "heliast/heliastlaw20.ParkBusy", spec := "parkBusy", unfollowed := true, recurses := true, plainKeys := false, apart := false }
def ParkBusySaid : Prop := parkBusyRow.holds Try.pinned (OpenSpec.ofChange parkBusySpec)

/-- ITS FALSE NEIGHBOUR: 'it returns false'. Refute it at one input. -/
def parkBusyWrong : ChangeSpec := { name := "parkBusy", fn := fun _ => fun
  | [d] => { results := [.lit (.bool false)], args := [d] }
  | _ => none }
def ParkBusyWrongFalsely : Prop := parkBusyRow.holds Try.pinned (OpenSpec.ofChange parkBusyWrong)

/-- 'heliastlaw20.ParkLost': WHATEVER THE INPUT: true; the input reads as it did. -/
def parkLostSpec : ChangeSpec := { name := "parkLost", fn := fun _ => fun
  | [d1, d2] => { results := [.lit (.bool true)], args := [d1, d2] }
  | _ => none }
def parkLostRow : OpenClaim := { program := "ytobdaiaaejlbkaa", sum := "ccfac8828b40556d8638a2a2117f0ad9225d769b70157a0ba3bcdea80202049b", func := "heliast/heliastlaw20.ParkLost", spec := "parkLost", unfollowed := true, recurses := true, plainKeys := false, apart := false }
def ParkLostSaid : Prop := parkLostRow.holds Try.pinned (OpenSpec.ofChange parkLostSpec)

/-- ITS FALSE NEIGHBOUR: 'it returns false'. Refute it at one input. -/
def parkLostWrong : ChangeSpec := { name := "parkLost", fn := fun _ => fun
  | [d1, d2] => { results := [.lit (.bool false)], args := [d1, d2] }
  | _ => none }
def ParkLostWrongFalsely : Prop := parkLostRow.holds Try.pinned (OpenSpec.ofChange parkLostWrong)

/-- 'heliastlaw20.ParkNone': WHATEVER THE INPUT: true; the input reads as it did. -/
def parkNoneSpec : ChangeSpec := { name := "parkNone", fn := fun _ => fun
  | [d1, d2] => { results := [.lit (.bool true)], args := [d1, d2] }
  | _ => none }
def parkNoneRow : OpenClaim := { program := "ytobdaiaaejlbkaa", sum := "ccfac8828b40556d8638a2a2117f0ad9225d769b70157a0ba3bcdea80202049b", func := "heliast/heliastlaw20.ParkNone", spec := "parkNone", unfollowed := true, recurses := true, plainKeys := false, apart := false }
def ParkNoneSaid : Prop := parkNoneRow.holds Try.pinned (OpenSpec.ofChange parkNoneSpec)

/-- ITS FALSE NEIGHBOUR: 'it returns false'. Refute it at one input. -/
def parkNoneWrong : ChangeSpec := { name := "parkNone", fn := fun _ => fun
  | [d1, d2] => { results := [.lit (.bool false)], args := [d1, d2] }
  | _ => none }
def ParkNoneWrongFalsely : Prop := parkNoneRow.holds Try.pinned (OpenSpec.ofChange parkNoneWrong)

/-- 'heliastlaw12.GraphLong': WHATEVER THE INPUT: true; the input reads as it did. -/
def graphLongSpec : ChangeSpec := { name := "graphLong", fn := fun _ => fun
  | [d1, d2] => { results := [.lit (.bool true)], args := [d1, d2] }
  | _ => none }
def graphLongRow : OpenClaim := { program := "ytobdaiaaejlbkaa", sum := "ccfac8828b40556d8638a2a2117f0ad9225d769b70157a0ba3bcdea80202049b", func := "heliast/heliastlaw12.GraphLong", spec := "graphLong", unfollowed := true, recurses := true, plainKeys := false, apart := false }
def GraphLongSaid : Prop := graphLongRow.holds Try.pinned (OpenSpec.ofChange graphLongSpec)

/-- ITS FALSE NEIGHBOUR: 'it returns false'. Refute it at one input. -/
def graphLongWrong : ChangeSpec := { name := "graphLong", fn := fun _ => fun
  | [d1, d2] => { results := [.lit (.bool false)], args := [d1, d2] }
  | _ => none }
def GraphLongWrongFalsely : Prop := graphLongRow.holds Try.pinned (OpenSpec.ofChange graphLongWrong)

/-- 'heliastlaw12.GraphNatural': WHATEVER THE INPUT: true; the input reads as it did. -/
def graphNaturalSpec : ChangeSpec := { name := "graphNatural", fn := fun _ => fun
  | [d] => { results := [.lit (.bool true)], args := [d] }
  | _ => none }
def graphNaturalRow : OpenClaim := { program := "ytobdaiaaejlbkaa", sum := "ccfac8828b40556d8638a2a2117f0ad9225d769b70157a0ba3bcdea80202049b", func := "heliast/heliastlaw12.GraphNatural", spec := "graphNatural", unfollowed := true, recurses := true, plainKeys := false, apart := false }
def GraphNaturalSaid : Prop := graphNaturalRow.holds Try.pinned (OpenSpec.ofChange graphNaturalSpec)

/-- ITS FALSE NEIGHBOUR: 'it returns false'. Refute it at one input. -/
def graphNaturalWrong : ChangeSpec := { name := "graphNatural", fn := fun _ => fun
  | [d] => { results := [.lit (.bool false)], args := [d] }
  | _ => none }
def GraphNaturalWrongFalsely : Prop := graphNaturalRow.holds Try.pinned (OpenSpec.ofChange graphNaturalWrong)

/-- 'heliastlaw12.GraphReach': WHATEVER THE INPUT: true; the input reads as it did. -/
def graphReachSpec : ChangeSpec := { name := "graphReach", fn := fun _ => fun
  | [d1, d2, d3] => { results := [.lit (.bool true)], args := [d1, d2, d3] }
  | _ => none }
def graphReachRow : OpenClaim := { program := "ytobdaiaaejlbkaa", sum := "ccfac8828b40556d8638a2a2117f0ad9225d769b70157a0ba3bcdea80202049b", func := "heliast/heliastlaw12.GraphReach", spec := "graphReach", unfollowed := true, recurses := true, plainKeys := false, apart := false }
def GraphReachSaid : Prop := graphReachRow.holds Try.pinned (OpenSpec.ofChange graphReachSpec)

/-- ITS FALSE NEIGHBOUR: 'it returns false'. Refute it at one input. -/
def graphReachWrong : ChangeSpec := { name := "graphReach", fn := fun _ => fun
  | [d1, d2, d3] => { results := [.lit (.bool false)], args := [d1, d2, d3] }
  | _ => none }
def GraphReachWrongFalsely : Prop := graphReachRow.holds Try.pinned (OpenSpec.ofChange graphReachWrong)

/-- 'heliastlaw12.GraphOrder': WHATEVER THE INPUT: true; the input reads as it did. -/
def graphOrderSpec : ChangeSpec := { name := "graphOrder", fn := fun _ => fun
  | [d1, d2, d3] => { results := [.lit (.bool true)], args := [d1, d2, d3] }
  | _ => none }
def graphOrderRow : OpenClaim := { program := "ytobdaiaaejlbkaa", sum := "ccfac8828b40556d8638a2a2117f0ad9225d769b70157a0ba3bcdea80202049b", func := "heliast/heliastlaw12.GraphOrder", spec := "graphOrder", unfollowed := true, recurses := true, plainKeys := false, apart := false }
def GraphOrderSaid : Prop := graphOrderRow.holds Try.pinned (OpenSpec.ofChange graphOrderSpec)

/-- ITS FALSE NEIGHBOUR: 'it returns false'. Refute it at one input. -/
def graphOrderWrong : ChangeSpec := { name := "graphOrder", fn := fun _ => fun
  | [d1, d2, d3] => { results := [.lit (.bool false)], args := [d1, d2, d3] }
  | _ => none }
def GraphOrderWrongFalsely : Prop := graphOrderRow.holds Try.pinned (OpenSpec.ofChange graphOrderWrong)

/-- 'heliastlaw12.GraphPast': WHATEVER THE INPUT: true; the input reads as it did. -/
def graphPastSpec : ChangeSpec := { name := "graphPast", fn := fun _ => fun
  | [d1, d2] => { results := [.lit (.bool true)], args := [d1, d2] }
  | _ => none }
def graphPastRow : OpenClaim := { program := "ytobdaiaaejlbkaa", sum := "ccfac8828b40556d8638a2a2117f0ad9225d769b70157a0ba3bcdea80202049b", func := "heliast/heliastlaw12.GraphPast", spec := "graphPast", unfollowed := true, recurses := true, plainKeys := false, apart := false }
def GraphPastSaid : Prop := graphPastRow.holds Try.pinned (OpenSpec.ofChange graphPastSpec)

/-- ITS FALSE NEIGHBOUR: 'it returns false'. Refute it at one input. -/
def graphPastWrong : ChangeSpec := { name := "graphPast", fn := fun _ => fun
  | [d1, d2] => { results := [.lit (.bool false)], args := [d1, d2] }
  | _ => none }
def GraphPastWrongFalsely : Prop := graphPastRow.holds Try.pinned (OpenSpec.ofChange graphPastWrong)

/-- 'heliastlaw12.GraphStep': WHATEVER THE INPUT: true; the input reads as it did. -/
def graphStepSpec : ChangeSpec := { name := "graphStep", fn := fun _ => fun
  | [d1, d2, d3] => { results := [.lit (.bool true)], args := [d1, d2, d3] }
  | _ => none }
def graphStepRow : OpenClaim := { program := "ytobdaiaaejlbkaa", sum := "ccfac8828b40556d8638a2a2117f0ad9225d769b70157a0ba3bcdea80202049b", func := "heliast/heliastlaw12.GraphStep", spec := "graphStep", unfollowed := true, recurses := true, plainKeys := false, apart := false }
def GraphStepSaid : Prop := graphStepRow.holds Try.pinned (OpenSpec.ofChange graphStepSpec)

/-- ITS FALSE NEIGHBOUR: 'it returns false'. Refute it at one input. -/
def graphStepWrong : ChangeSpec := { name := "graphStep", fn := fun _ => fun
  | [d1, d2, d3] => { results := [.lit (.bool false)], args := [d1, d2, d3] }
  | _ => none }
def GraphStepWrongFalsely : Prop := graphStepRow.holds Try.pinned (OpenSpec.ofChange graphStepWrong)

/-- 'heliastlaw16.SplitAll': WHATEVER THE INPUT: true; the input reads as it did. -/
def splitAllSpec : ChangeSpec := { name := "splitAll", fn := fun _ => fun
  | [d1, d2] => { results := [.lit (.bool true)], args := [d1, d2] }
  | _ => none }
def splitAllRow : OpenClaim := { program := "ytobdaiaaejlbkaa", sum := "ccfac8828b40556d8638a2a2117f0ad9225d769b70157a0ba3bcdea80202049b", func := "heliast/heliastlaw16.SplitAll", spec := "splitAll", unfollowed := true, recurses := true, plainKeys := false, apart := false }
def SplitAllSaid : Prop := splitAllRow.holds Try.pinned (OpenSpec.ofChange splitAllSpec)

/-- ITS FALSE NEIGHBOUR: 'it returns false'. Refute it at one input. -/
def splitAllWrong : ChangeSpec := { name := "splitAll", fn := fun _ => fun
  | [d1, d2] => { results := [.lit (.bool false)], args := [d1, d2] }
  | _ => none }
def SplitAllWrongFalsely : Prop := splitAllRow.holds Try.pinned (OpenSpec.ofChange splitAllWrong)

/-- 'heliastlaw16.SplitChains': WHATEVER THE INPUT: true; the input reads as it did. -/
def splitChainsSpec : ChangeSpec := { name := "splitChains", fn := fun _ => fun
  | [d1, d2, d3] => { results := [.lit (.bool true)], args := [d1, d2, d3] }
  | _ => none }
def splitChainsRow : OpenClaim := { program := "ytobdaiaaejlbkaa", sum := "ccfac8828b40556d8638a2a2117f0ad9225d769b70157a0ba3bcdea80202049b", func := "heliast/heliastlaw16.SplitChains", spec := "splitChains", unfollowed := true, recurses := true, plainKeys := false, apart := false }
def SplitChainsSaid : Prop := splitChainsRow.holds Try.pinned (OpenSpec.ofChange splitChainsSpec)

/-- ITS FALSE NEIGHBOUR: 'it returns false'. Refute it at one input. -/
def splitChainsWrong : ChangeSpec := { name := "splitChains", fn := fun _ => fun
  | [d1, d2, d3] => { results := [.lit (.bool false)], args := [d1, d2, d3] }
  | _ => none }
def SplitChainsWrongFalsely : Prop := splitChainsRow.holds Try.pinned (OpenSpec.ofChange splitChainsWrong)

/-- 'heliastlaw16.SplitAsks': WHATEVER THE INPUT: true; the input reads as it did. -/
def splitAsksSpec : ChangeSpec := { name := "splitAsks", fn := fun _ => fun
  | [d1, d2, d3, d4] => { results := [.lit (.bool true)], args := [d1, d2, d3, d4] }
  | _ => none }
def splitAsksRow : OpenClaim := { program := "ytobdaiaaejlbkaa", sum := "ccfac8828b40556d8638a2a2117f0ad9225d769b70157a0ba3bcdea80202049b", func := "heliast/heliastlaw16.SplitAsks", spec := "splitAsks", unfollowed := true, recurses := true, plainKeys := false, apart := false }
def SplitAsksSaid : Prop := splitAsksRow.holds Try.pinned (OpenSpec.ofChange splitAsksSpec)

/-- ITS FALSE NEIGHBOUR: 'it returns false'. Refute it at one input. -/
def splitAsksWrong : ChangeSpec := { name := "splitAsks", fn := fun _ => fun
  | [d1, d2, d3, d4] => { results := [.lit (.bool false)], args := [d1, d2, d3, d4] }
  | _ => none }
def SplitAsksWrongFalsely : Prop := splitAsksRow.holds Try.pinned (OpenSpec.ofChange splitAsksWrong)

/-- 'heliastlaw16.SplitBoth': WHATEVER THE INPUT: true; the input reads as it did. -/
def splitBothSpec : ChangeSpec := { name := "splitBoth", fn := fun _ => fun
  | [d1, d2, d3] => { results := [.lit (.bool true)], args := [d1, d2, d3] }
  | _ => none }
def splitBothRow : OpenClaim := { program := "ytobdaiaaejlbkaa", sum := "ccfac8828b40556d8638a2a2117f0ad9225d769b70157a0ba3bcdea80202049b", func := "heliast/heliastlaw16.SplitBoth", spec := "splitBoth", unfollowed := true, recurses := true, plainKeys := false, apart := false }
def SplitBothSaid : Prop := splitBothRow.holds Try.pinned (OpenSpec.ofChange splitBothSpec)

/-- ITS FALSE NEIGHBOUR: 'it returns false'. Refute it at one input. -/
def splitBothWrong : ChangeSpec := { name := "splitBoth", fn := fun _ => fun
  | [d1, d2, d3] => { results := [.lit (.bool false)], args := [d1, d2, d3] }
  | _ => none }
def SplitBothWrongFalsely : Prop := splitBothRow.holds Try.pinned (OpenSpec.ofChange splitBothWrong)

/-- 'heliastlaw12.GraphHeads': WHATEVER THE INPUT: true; the input reads as it did. -/
def graphHeadsSpec : ChangeSpec := { name := "graphHeads", fn := fun _ => fun
  | [d1, d2, d3] => { results := [.lit (.bool true)], args := [d1, d2, d3] }
  | _ => none }
def graphHeadsRow : OpenClaim := { program := "ytobdaiaaejlbkaa", sum := "ccfac8828b40556d8638a2a2117f0ad9225d769b70157a0ba3bcdea80202049b", func := "heliast/heliastlaw12.GraphHeads", spec := "graphHeads", unfollowed := true, recurses := true, plainKeys := false, apart := false }
def GraphHeadsSaid : Prop := graphHeadsRow.holds Try.pinned (OpenSpec.ofChange graphHeadsSpec)

/-- ITS FALSE NEIGHBOUR: 'it returns false'. Refute it at one input. -/
def graphHeadsWrong : ChangeSpec := { name := "graphHeads", fn := fun _ => fun
  | [d1, d2, d3] => { results := [.lit (.bool false)], args := [d1, d2, d3] }
  | _ => none }
def GraphHeadsWrongFalsely : Prop := graphHeadsRow.holds Try.pinned (OpenSpec.ofChange graphHeadsWrong)

/-- 'heliastlaw16.SplitOne': WHATEVER THE INPUT: true; the input reads as it did. -/
def splitOneSpec : ChangeSpec := { name := "splitOne", fn := fun _ => fun
  | [d1, d2] => { results := [.lit (.bool true)], args := [d1, d2] }
  | _ => none }
def splitOneRow : OpenClaim := { program := "ytobdaiaaejlbkaa", sum := "ccfac8828b40556d8638a2a2117f0ad9225d769b70157a0ba3bcdea80202049b", func := "heliast/heliastlaw16.SplitOne", spec := "splitOne", unfollowed := true, recurses := true, plainKeys := false, apart := false }
def SplitOneSaid : Prop := splitOneRow.holds Try.pinned (OpenSpec.ofChange splitOneSpec)

/-- ITS FALSE NEIGHBOUR: 'it returns false'. Refute it at one input. -/
def splitOneWrong : ChangeSpec := { name := "splitOne", fn := fun _ => fun
  | [d1, d2] => { results := [.lit (.bool false)], args := [d1, d2] }
  | _ => none }
def SplitOneWrongFalsely : Prop := splitOneRow.holds Try.pinned (OpenSpec.ofChange splitOneWrong)

/-- 'heliastlaw16.SplitOrder': WHATEVER THE INPUT: true; the input reads as it did. -/
def splitOrderSpec : ChangeSpec := { name := "splitOrder", fn := fun _ => fun
  | [d1, d2, d3, d4] => { results := [.lit (.bool true)], args := [d1, d2, d3, d4] }
  | _ => none }
def splitOrderRow : OpenClaim := { program := "ytobdaiaaejlbkaa", sum := "ccfac8828b40556d8638a2a2117f0ad9225d769b70157a0ba3bcdea80202049b", func := "heliast/heliastlaw16.SplitOrder", spec := "splitOrder", unfollowed := true, recurses := true, plainKeys := false, apart := false }
def SplitOrderSaid : Prop := splitOrderRow.holds Try.pinned (OpenSpec.ofChange splitOrderSpec)

/-- ITS FALSE NEIGHBOUR: 'it returns false'. Refute it at one input. -/
def splitOrderWrong : ChangeSpec := { name := "splitOrder", fn := fun _ => fun
  | [d1, d2, d3, d4] => { results := [.lit (.bool false)], args := [d1, d2, d3, d4] }
  | _ => none }
def SplitOrderWrongFalsely : Prop := splitOrderRow.holds Try.pinned (OpenSpec.ofChange splitOrderWrong)

/-- 'heliastlaw12.GraphAsks': WHATEVER THE INPUT: true; the input reads as it did. -/
def graphAsksSpec : ChangeSpec := { name := "graphAsks", fn := fun _ => fun
  | [d1, d2, d3, d4, d5, d6, d7] => { results := [.lit (.bool true)], args := [d1, d2, d3, d4, d5, d6, d7] }
  | _ => none }
def graphAsksRow : OpenClaim := { program := "ytobdaiaaejlbkaa", sum := "ccfac8828b40556d8638a2a2117f0ad9225d769b70157a0ba3bcdea80202049b", func := "heliast/heliastlaw12.GraphAsks", spec := "graphAsks", unfollowed := true, recurses := true, plainKeys := false, apart := false }
def GraphAsksSaid : Prop := graphAsksRow.holds Try.pinned (OpenSpec.ofChange graphAsksSpec)

/-- ITS FALSE NEIGHBOUR: 'it returns false'. Refute it at one input. -/
def graphAsksWrong : ChangeSpec := { name := "graphAsks", fn := fun _ => fun
  | [d1, d2, d3, d4, d5, d6, d7] => { results := [.lit (.bool false)], args := [d1, d2, d3, d4, d5, d6, d7] }
  | _ => none }
def GraphAsksWrongFalsely : Prop := graphAsksRow.holds Try.pinned (OpenSpec.ofChange graphAsksWrong)

/-- 'heliastlaw17.OrderPowers': WHATEVER THE INPUT: true; the input reads as it did. -/
def orderPowersSpec : ChangeSpec := { name := "orderPowers", fn := fun _ => fun
  | [d1, d2] => { results := [.lit (.bool true)], args := [d1, d2] }
  | _ => none }
def orderPowersRow : OpenClaim := { program := "ytobdaiaaejlbkaa", sum := "ccfac8828b40556d8638a2a2117f0ad9225d769b70157a0ba3bcdea80202049b", func := "heliast/heliastlaw17.OrderPowers", spec := "orderPowers", unfollowed := true, recurses := true, plainKeys := false, apart := false }
def OrderPowersSaid : Prop := orderPowersRow.holds Try.pinned (OpenSpec.ofChange orderPowersSpec)

/-- ITS FALSE NEIGHBOUR: 'it returns false'. Refute it at one input. -/
def orderPowersWrong : ChangeSpec := { name := "orderPowers", fn := fun _ => fun
  | [d1, d2] => { results := [.lit (.bool false)], args := [d1, d2] }
  | _ => none }
def OrderPowersWrongFalsely : Prop := orderPowersRow.holds Try.pinned (OpenSpec.ofChange orderPowersWrong)

/-- 'heliastlaw13.StatePlaces': WHATEVER THE INPUT: true; the input reads as it did. -/
def statePlacesSpec : ChangeSpec := { name := "statePlaces", fn := fun _ => fun
  | [d1, d2] => { results := [.lit (.bool true)], args := [d1, d2] }
  | _ => none }
def statePlacesRow : OpenClaim := { program := "ytobdaiaaejlbkaa", sum := "ccfac8828b40556d8638a2a2117f0ad9225d769b70157a0ba3bcdea80202049b", func := "heliast/heliastlaw13.StatePlaces", spec := "statePlaces", inPlace := ["slices.overlaps[heliast/api.Entry]"], unfollowed := true, recurses := true, plainKeys := false, apart := false }
def StatePlacesSaid : Prop := statePlacesRow.holds Try.pinned (OpenSpec.ofChange statePlacesSpec)

/-- ITS FALSE NEIGHBOUR: 'it returns false'. Refute it at one input. -/
def statePlacesWrong : ChangeSpec := { name := "statePlaces", fn := fun _ => fun
  | [d1, d2] => { results := [.lit (.bool false)], args := [d1, d2] }
  | _ => none }
def StatePlacesWrongFalsely : Prop := statePlacesRow.holds Try.pinned (OpenSpec.ofChange statePlacesWrong)

/-- 'heliastlaw13.StateAsks': WHATEVER THE INPUT: true; the input reads as it did. -/
def stateAsksSpec : ChangeSpec := { name := "stateAsks", fn := fun _ => fun
  | [d1, d2, d3, d4, d5, d6] => { results := [.lit (.bool true)], args := [d1, d2, d3, d4, d5, d6] }
  | _ => none }
def stateAsksRow : OpenClaim := { program := "ytobdaiaaejlbkaa", sum := "ccfac8828b40556d8638a2a2117f0ad9225d769b70157a0ba3bcdea80202049b", func := "heliast/heliastlaw13.StateAsks", spec := "stateAsks", inPlace := ["slices.overlaps[heliast/api.Entry]"], unfollowed := true, recurses := true, plainKeys := false, apart := false }
def StateAsksSaid : Prop := stateAsksRow.holds Try.pinned (OpenSpec.ofChange stateAsksSpec)

/-- ITS FALSE NEIGHBOUR: 'it returns false'. Refute it at one input. -/
def stateAsksWrong : ChangeSpec := { name := "stateAsks", fn := fun _ => fun
  | [d1, d2, d3, d4, d5, d6] => { results := [.lit (.bool false)], args := [d1, d2, d3, d4, d5, d6] }
  | _ => none }
def StateAsksWrongFalsely : Prop := stateAsksRow.holds Try.pinned (OpenSpec.ofChange stateAsksWrong)

/-- 'heliastlaw17.OrderMained': WHATEVER THE INPUT: true; the input reads as it did. -/
def orderMainedSpec : ChangeSpec := { name := "orderMained", fn := fun _ => fun
  | [d1, d2, d3] => { results := [.lit (.bool true)], args := [d1, d2, d3] }
  | _ => none }
def orderMainedRow : OpenClaim := { program := "ytobdaiaaejlbkaa", sum := "ccfac8828b40556d8638a2a2117f0ad9225d769b70157a0ba3bcdea80202049b", func := "heliast/heliastlaw17.OrderMained", spec := "orderMained", unfollowed := true, recurses := true, plainKeys := false, apart := false }
def OrderMainedSaid : Prop := orderMainedRow.holds Try.pinned (OpenSpec.ofChange orderMainedSpec)

/-- ITS FALSE NEIGHBOUR: 'it returns false'. Refute it at one input. -/
def orderMainedWrong : ChangeSpec := { name := "orderMained", fn := fun _ => fun
  | [d1, d2, d3] => { results := [.lit (.bool false)], args := [d1, d2, d3] }
  | _ => none }
def OrderMainedWrongFalsely : Prop := orderMainedRow.holds Try.pinned (OpenSpec.ofChange orderMainedWrong)

/- THE SECOND FORM. 'bulk': how many values and letters a reading holds, each counted each time it is reached (what is shared counts as often as it is met; a slice's spare places count too). A statement '..UptoSaid' is the law's where the arguments, and the package variables that the reading takes, are together of bulk at most 1048576: NARROWER than '..Said'. Prove '..Said' where nothing that the law and all that it calls make is longer than what came in: it says more and counts as full. Else prove '..UptoSaid'. A law counts once. -/
mutual
def uptoBulk {H : Type} : DataW H → Nat
  | .lit (.string bytes) => bytes.length + 1
  | .lit _ => 1
  | .nil => 1
  | .ptr d => uptoBulk d + 1
  | .slice elems spare => uptoBulkAll elems + uptoBulkAll spare + 1
  | .agg parts => uptoBulkAll parts + 1
  | .iface _ d => uptoBulk d + 1
  | .map entries => uptoBulkEntries entries + 1
  | .held _ => 1
def uptoBulkAll {H : Type} : List (DataW H) → Nat
  | [] => 0
  | d :: r => uptoBulk d + uptoBulkAll r
def uptoBulkEntries {H : Type} : List (Lit × DataW H) → Nat
  | [] => 0
  | x :: r => uptoBulkEntry x + uptoBulkEntries r
def uptoBulkEntry {H : Type} : Lit × DataW H → Nat
  | (.string bytes, d) => bytes.length + uptoBulk d + 1
  | (_, d) => uptoBulk d + 1
 end
def uptoSmall : (H : Type) → List (DataW H) → Bool := fun _ ds => decide (uptoBulkAll ds ≤ 1048576)
def OpenSpec.upto (s : _root_.Go.ChangeSpec) : _root_.Go.OpenSpec := { _root_.Go.OpenSpec.ofChange s with cond := some uptoSmall }

/-- 'heliastlaw20.ParkOut', WHERE WHAT IT READS IS OF BULK AT MOST 1048576: true; the input reads as it did. -/
def parkOutUptoRow : OpenClaim := { program := "ytobdaiaaejlbkaa", sum := "ccfac8828b40556d8638a2a2117f0ad9225d769b70157a0ba3bcdea80202049b", func := "heliast/heliastlaw20.ParkOut", spec := "parkOut", unfollowed := true, recurses := true, plainKeys := false, apart := false, narrowed := true }
def ParkOutUptoSaid : Prop := parkOutUptoRow.holds Try.pinned (OpenSpec.upto parkOutSpec)

/-- 'heliastlaw20.ParkTwice', WHERE WHAT IT READS IS OF BULK AT MOST 1048576: true; the input reads as it did. -/
def parkTwiceUptoRow : OpenClaim := { program := "ytobdaiaaejlbkaa", sum := "ccfac8828b40556d8638a2a2117f0ad9225d769b70157a0ba3bcdea80202049b", func := "heliast/heliastlaw20.ParkTwice", spec := "parkTwice", unfollowed := true, recurses := true, plainKeys := false, apart := false, narrowed := true }
def ParkTwiceUptoSaid : Prop := parkTwiceUptoRow.holds Try.pinned (OpenSpec.upto parkTwiceSpec)

/-- 'heliastlaw17.OrderMainline', WHERE WHAT IT READS IS OF BULK AT MOST 1048576: true; the input reads as it did. -/
def orderMainlineUptoRow : OpenClaim := { program := "ytobdaiaaejlbkaa", sum := "ccfac8828b40556d8638a2a2117f0ad9225d769b70157a0ba3bcdea80202049b", func := "heliast/heliastlaw17.OrderMainline", spec := "orderMainline", unfollowed := true, recurses := true, plainKeys := false, apart := false, narrowed := true }
def OrderMainlineUptoSaid : Prop := orderMainlineUptoRow.holds Try.pinned (OpenSpec.upto orderMainlineSpec)

/-- 'heliastlaw17.OrderLevel', WHERE WHAT IT READS IS OF BULK AT MOST 1048576: true; the input reads as it did. -/
def orderLevelUptoRow : OpenClaim := { program := "ytobdaiaaejlbkaa", sum := "ccfac8828b40556d8638a2a2117f0ad9225d769b70157a0ba3bcdea80202049b", func := "heliast/heliastlaw17.OrderLevel", spec := "orderLevel", unfollowed := true, recurses := true, plainKeys := false, apart := false, narrowed := true }
def OrderLevelUptoSaid : Prop := orderLevelUptoRow.holds Try.pinned (OpenSpec.upto orderLevelSpec)

/-- 'heliastlaw13.StateRight', WHERE WHAT IT READS IS OF BULK AT MOST 1048576: true; the input reads as it did. -/
def stateRightUptoRow : OpenClaim := { program := "ytobdaiaaejlbkaa", sum := "ccfac8828b40556d8638a2a2117f0ad9225d769b70157a0ba3bcdea80202049b", func := "heliast/heliastlaw13.StateRight", spec := "stateRight", inPlace := ["slices.overlaps[heliast/api.Entry]"], unfollowed := true, recurses := true, plainKeys := false, apart := false, narrowed := true }
def StateRightUptoSaid : Prop := stateRightUptoRow.holds Try.pinned (OpenSpec.upto stateRightSpec)

/-- 'heliastlaw13.StatePut', WHERE WHAT IT READS IS OF BULK AT MOST 1048576: true; the input reads as it did. -/
def statePutUptoRow : OpenClaim := { program := "ytobdaiaaejlbkaa", sum := "ccfac8828b40556d8638a2a2117f0ad9225d769b70157a0ba3bcdea80202049b", func := "heliast/heliastlaw13.StatePut", spec := "statePut", inPlace := ["slices.overlaps[heliast/api.Entry]"], unfollowed := true, recurses := true, plainKeys := false, apart := false, narrowed := true }
def StatePutUptoSaid : Prop := statePutUptoRow.holds Try.pinned (OpenSpec.upto statePutSpec)

/-- 'heliastlaw13.StateOver', WHERE WHAT IT READS IS OF BULK AT MOST 1048576: true; the input reads as it did. -/
def stateOverUptoRow : OpenClaim := { program := "ytobdaiaaejlbkaa", sum := "ccfac8828b40556d8638a2a2117f0ad9225d769b70157a0ba3bcdea80202049b", func := "heliast/heliastlaw13.StateOver", spec := "stateOver", inPlace := ["slices.overlaps[heliast/api.Entry]"], unfollowed := true, recurses := true, plainKeys := false, apart := false, narrowed := true }
def StateOverUptoSaid : Prop := stateOverUptoRow.holds Try.pinned (OpenSpec.upto stateOverSpec)

/-- 'heliastlaw13.StateBoth', WHERE WHAT IT READS IS OF BULK AT MOST 1048576: true; the input reads as it did. -/
def stateBothUptoRow : OpenClaim := { program := "ytobdaiaaejlbkaa", sum := "ccfac8828b40556d8638a2a2117f0ad9225d769b70157a0ba3bcdea80202049b", func := "heliast/heliastlaw13.StateBoth", spec := "stateBoth", inPlace := ["slices.overlaps[heliast/api.Entry]"], unfollowed := true, recurses := true, plainKeys := false, apart := false, narrowed := true }
def StateBothUptoSaid : Prop := stateBothUptoRow.holds Try.pinned (OpenSpec.upto stateBothSpec)

/-- 'heliastlaw20.ParkDoes', WHERE WHAT IT READS IS OF BULK AT MOST 1048576: true; the input reads as it did. -/
def parkDoesUptoRow : OpenClaim := { program := "ytobdaiaaejlbkaa", sum := "ccfac8828b40556d8638a2a2117f0ad9225d769b70157a0ba3bcdea80202049b", func := "heliast/heliastlaw20.ParkDoes", spec := "parkDoes", unfollowed := true, recurses := true, plainKeys := false, apart := false, narrowed := true }
def ParkDoesUptoSaid : Prop := parkDoesUptoRow.holds Try.pinned (OpenSpec.upto parkDoesSpec)

/-- 'heliastlaw20.ParkBusy', WHERE WHAT IT READS IS OF BULK AT MOST 1048576: true; the input reads as it did. -/
def parkBusyUptoRow : OpenClaim := { program := "ytobdaiaaejlbkaa", sum := "ccfac8828b40556d8638a2a2117f0ad9225d769b70157a0ba3bcdea80202049b", func := "heliast/heliastlaw20.ParkBusy", spec := "parkBusy", unfollowed := true, recurses := true, plainKeys := false, apart := false, narrowed := true }
def ParkBusyUptoSaid : Prop := parkBusyUptoRow.holds Try.pinned (OpenSpec.upto parkBusySpec)

/-- 'heliastlaw20.ParkLost', WHERE WHAT IT READS IS OF BULK AT MOST 1048576: true; the input reads as it did. -/
def parkLostUptoRow : OpenClaim := { program := "ytobdaiaaejlbkaa", sum := "ccfac8828b40556d8638a2a2117f0ad9225d769b70157a0ba3bcdea80202049b", func := "heliast/heliastlaw20.ParkLost", spec := "parkLost", unfollowed := true, recurses := true, plainKeys := false, apart := false, narrowed := true }
def ParkLostUptoSaid : Prop := parkLostUptoRow.holds Try.pinned (OpenSpec.upto parkLostSpec)

/-- 'heliastlaw20.ParkNone', WHERE WHAT IT READS IS OF BULK AT MOST 1048576: true; the input reads as it did. -/
def parkNoneUptoRow : OpenClaim := { program := "ytobdaiaaejlbkaa", sum := "ccfac8828b40556d8638a2a2117f0ad9225d769b70157a0ba3bcdea80202049b", func := "heliast/heliastlaw20.ParkNone", spec := "parkNone", unfollowed := true, recurses := true, plainKeys := false, apart := false, narrowed := true }
def ParkNoneUptoSaid : Prop := parkNoneUptoRow.holds Try.pinned (OpenSpec.upto parkNoneSpec)

/-- 'heliastlaw12.GraphLong', WHERE WHAT IT READS IS OF BULK AT MOST 1048576: true; the input reads as it did. -/
def graphLongUptoRow : OpenClaim := { program := "ytobdaiaaejlbkaa", sum := "ccfac8828b40556d8638a2a2117f0ad9225d769b70157a0ba3bcdea80202049b", func := "heliast/heliastlaw12.GraphLong", spec := "graphLong", unfollowed := true, recurses := true, plainKeys := false, apart := false, narrowed := true }
def GraphLongUptoSaid : Prop := graphLongUptoRow.holds Try.pinned (OpenSpec.upto graphLongSpec)

/-- 'heliastlaw12.GraphNatural', WHERE WHAT IT READS IS OF BULK AT MOST 1048576: true; the input reads as it did. -/
def graphNaturalUptoRow : OpenClaim := { program := "ytobdaiaaejlbkaa", sum := "ccfac8828b40556d8638a2a2117f0ad9225d769b70157a0ba3bcdea80202049b", func := "heliast/heliastlaw12.GraphNatural", spec := "graphNatural", unfollowed := true, recurses := true, plainKeys := false, apart := false, narrowed := true }
def GraphNaturalUptoSaid : Prop := graphNaturalUptoRow.holds Try.pinned (OpenSpec.upto graphNaturalSpec)

/-- 'heliastlaw12.GraphReach', WHERE WHAT IT READS IS OF BULK AT MOST 1048576: true; the input reads as it did. -/
def graphReachUptoRow : OpenClaim := { program := "ytobdaiaaejlbkaa", sum := "ccfac8828b40556d8638a2a2117f0ad9225d769b70157a0ba3bcdea80202049b", func := "heliast/heliastlaw12.GraphReach", spec := "graphReach", unfollowed := true, recurses := true, plainKeys := false, apart := false, narrowed := true }
def GraphReachUptoSaid : Prop := graphReachUptoRow.holds Try.pinned (OpenSpec.upto graphReachSpec)

/-- 'heliastlaw12.GraphOrder', WHERE WHAT IT READS IS OF BULK AT MOST 1048576: true; the input reads as it did. -/
def graphOrderUptoRow : OpenClaim := { program := "ytobdaiaaejlbkaa", sum := "ccfac8828b40556d8638a2a2117f0ad9225d769b70157a0ba3bcdea80202049b", func := "heliast/heliastlaw12.GraphOrder", spec := "graphOrder", unfollowed := true, recurses := true, plainKeys := false, apart := false, narrowed := true }
def GraphOrderUptoSaid : Prop := graphOrderUptoRow.holds Try.pinned (OpenSpec.upto graphOrderSpec)

/-- 'heliastlaw12.GraphPast', WHERE WHAT IT READS IS OF BULK AT MOST 1048576: true; the input reads as it did. -/
def graphPastUptoRow : OpenClaim := { program := "ytobdaiaaejlbkaa", sum := "ccfac8828b40556d8638a2a2117f0ad9225d769b70157a0ba3bcdea80202049b", func := "heliast/heliastlaw12.GraphPast", spec := "graphPast", unfollowed := true, recurses := true, plainKeys := false, apart := false, narrowed := true }
def GraphPastUptoSaid : Prop := graphPastUptoRow.holds Try.pinned (OpenSpec.upto graphPastSpec)

/-- 'heliastlaw12.GraphStep', WHERE WHAT IT READS IS OF BULK AT MOST 1048576: true; the input reads as it did. -/
def graphStepUptoRow : OpenClaim := { program := "ytobdaiaaejlbkaa", sum := "ccfac8828b40556d8638a2a2117f0ad9225d769b70157a0ba3bcdea80202049b", func := "heliast/heliastlaw12.GraphStep", spec := "graphStep", unfollowed := true, recurses := true, plainKeys := false, apart := false, narrowed := true }
def GraphStepUptoSaid : Prop := graphStepUptoRow.holds Try.pinned (OpenSpec.upto graphStepSpec)

/-- 'heliastlaw16.SplitAll', WHERE WHAT IT READS IS OF BULK AT MOST 1048576: true; the input reads as it did. -/
def splitAllUptoRow : OpenClaim := { program := "ytobdaiaaejlbkaa", sum := "ccfac8828b40556d8638a2a2117f0ad9225d769b70157a0ba3bcdea80202049b", func := "heliast/heliastlaw16.SplitAll", spec := "splitAll", unfollowed := true, recurses := true, plainKeys := false, apart := false, narrowed := true }
def SplitAllUptoSaid : Prop := splitAllUptoRow.holds Try.pinned (OpenSpec.upto splitAllSpec)

/-- 'heliastlaw16.SplitChains', WHERE WHAT IT READS IS OF BULK AT MOST 1048576: true; the input reads as it did. -/
def splitChainsUptoRow : OpenClaim := { program := "ytobdaiaaejlbkaa", sum := "ccfac8828b40556d8638a2a2117f0ad9225d769b70157a0ba3bcdea80202049b", func := "heliast/heliastlaw16.SplitChains", spec := "splitChains", unfollowed := true, recurses := true, plainKeys := false, apart := false, narrowed := true }
def SplitChainsUptoSaid : Prop := splitChainsUptoRow.holds Try.pinned (OpenSpec.upto splitChainsSpec)

/-- 'heliastlaw16.SplitAsks', WHERE WHAT IT READS IS OF BULK AT MOST 1048576: true; the input reads as it did. -/
def splitAsksUptoRow : OpenClaim := { program := "ytobdaiaaejlbkaa", sum := "ccfac8828b40556d8638a2a2117f0ad9225d769b70157a0ba3bcdea80202049b", func := "heliast/heliastlaw16.SplitAsks", spec := "splitAsks", unfollowed := true, recurses := true, plainKeys := false, apart := false, narrowed := true }
def SplitAsksUptoSaid : Prop := splitAsksUptoRow.holds Try.pinned (OpenSpec.upto splitAsksSpec)

/-- 'heliastlaw16.SplitBoth', WHERE WHAT IT READS IS OF BULK AT MOST 1048576: true; the input reads as it did. -/
def splitBothUptoRow : OpenClaim := { program := "ytobdaiaaejlbkaa", sum := "ccfac8828b40556d8638a2a2117f0ad9225d769b70157a0ba3bcdea80202049b", func := "heliast/heliastlaw16.SplitBoth", spec := "splitBoth", unfollowed := true, recurses := true, plainKeys := false, apart := false, narrowed := true }
def SplitBothUptoSaid : Prop := splitBothUptoRow.holds Try.pinned (OpenSpec.upto splitBothSpec)

/-- 'heliastlaw12.GraphHeads', WHERE WHAT IT READS IS OF BULK AT MOST 1048576: true; the input reads as it did. -/
def graphHeadsUptoRow : OpenClaim := { program := "ytobdaiaaejlbkaa", sum := "ccfac8828b40556d8638a2a2117f0ad9225d769b70157a0ba3bcdea80202049b", func := "heliast/heliastlaw12.GraphHeads", spec := "graphHeads", unfollowed := true, recurses := true, plainKeys := false, apart := false, narrowed := true }
def GraphHeadsUptoSaid : Prop := graphHeadsUptoRow.holds Try.pinned (OpenSpec.upto graphHeadsSpec)

/-- 'heliastlaw16.SplitOne', WHERE WHAT IT READS IS OF BULK AT MOST 1048576: true; the input reads as it did. -/
def splitOneUptoRow : OpenClaim := { program := "ytobdaiaaejlbkaa", sum := "ccfac8828b40556d8638a2a2117f0ad9225d769b70157a0ba3bcdea80202049b", func := "heliast/heliastlaw16.SplitOne", spec := "splitOne", unfollowed := true, recurses := true, plainKeys := false, apart := false, narrowed := true }
def SplitOneUptoSaid : Prop := splitOneUptoRow.holds Try.pinned (OpenSpec.upto splitOneSpec)

/-- 'heliastlaw16.SplitOrder', WHERE WHAT IT READS IS OF BULK AT MOST 1048576: true; the input reads as it did. -/
def splitOrderUptoRow : OpenClaim := { program := "ytobdaiaaejlbkaa", sum := "ccfac8828b40556d8638a2a2117f0ad9225d769b70157a0ba3bcdea80202049b", func := "heliast/heliastlaw16.SplitOrder", spec := "splitOrder", unfollowed := true, recurses := true, plainKeys := false, apart := false, narrowed := true }
def SplitOrderUptoSaid : Prop := splitOrderUptoRow.holds Try.pinned (OpenSpec.upto splitOrderSpec)

/-- 'heliastlaw12.GraphAsks', WHERE WHAT IT READS IS OF BULK AT MOST 1048576: true; the input reads as it did. -/
def graphAsksUptoRow : OpenClaim := { program := "ytobdaiaaejlbkaa", sum := "ccfac8828b40556d8638a2a2117f0ad9225d769b70157a0ba3bcdea80202049b", func := "heliast/heliastlaw12.GraphAsks", spec := "graphAsks", unfollowed := true, recurses := true, plainKeys := false, apart := false, narrowed := true }
def GraphAsksUptoSaid : Prop := graphAsksUptoRow.holds Try.pinned (OpenSpec.upto graphAsksSpec)

/-- 'heliastlaw17.OrderPowers', WHERE WHAT IT READS IS OF BULK AT MOST 1048576: true; the input reads as it did. -/
def orderPowersUptoRow : OpenClaim := { program := "ytobdaiaaejlbkaa", sum := "ccfac8828b40556d8638a2a2117f0ad9225d769b70157a0ba3bcdea80202049b", func := "heliast/heliastlaw17.OrderPowers", spec := "orderPowers", unfollowed := true, recurses := true, plainKeys := false, apart := false, narrowed := true }
def OrderPowersUptoSaid : Prop := orderPowersUptoRow.holds Try.pinned (OpenSpec.upto orderPowersSpec)

/-- 'heliastlaw13.StatePlaces', WHERE WHAT IT READS IS OF BULK AT MOST 1048576: true; the input reads as it did. -/
def statePlacesUptoRow : OpenClaim := { program := "ytobdaiaaejlbkaa", sum := "ccfac8828b40556d8638a2a2117f0ad9225d769b70157a0ba3bcdea80202049b", func := "heliast/heliastlaw13.StatePlaces", spec := "statePlaces", inPlace := ["slices.overlaps[heliast/api.Entry]"], unfollowed := true, recurses := true, plainKeys := false, apart := false, narrowed := true }
def StatePlacesUptoSaid : Prop := statePlacesUptoRow.holds Try.pinned (OpenSpec.upto statePlacesSpec)

/-- 'heliastlaw13.StateAsks', WHERE WHAT IT READS IS OF BULK AT MOST 1048576: true; the input reads as it did. -/
def stateAsksUptoRow : OpenClaim := { program := "ytobdaiaaejlbkaa", sum := "ccfac8828b40556d8638a2a2117f0ad9225d769b70157a0ba3bcdea80202049b", func := "heliast/heliastlaw13.StateAsks", spec := "stateAsks", inPlace := ["slices.overlaps[heliast/api.Entry]"], unfollowed := true, recurses := true, plainKeys := false, apart := false, narrowed := true }
def StateAsksUptoSaid : Prop := stateAsksUptoRow.holds Try.pinned (OpenSpec.upto stateAsksSpec)

/-- 'heliastlaw17.OrderMained', WHERE WHAT IT READS IS OF BULK AT MOST 1048576: true; the input reads as it did. -/
def orderMainedUptoRow : OpenClaim := { program := "ytobdaiaaejlbkaa", sum := "ccfac8828b40556d8638a2a2117f0ad9225d769b70157a0ba3bcdea80202049b", func := "heliast/heliastlaw17.OrderMained", spec := "orderMained", unfollowed := true, recurses := true, plainKeys := false, apart := false, narrowed := true }
def OrderMainedUptoSaid : Prop := orderMainedUptoRow.holds Try.pinned (OpenSpec.upto orderMainedSpec)

end Rows
end Go.Proofs.Ytobdaiaaejlbkaa
