/-
  No cell of these rows narrows 'for every input' (looked for: loops, veiled, ifaces, maps, wideKeys, modest, calm, conditions, laid).
  DERIVED. THE GIVEN ROWS OF THIS SEAT. 12 by the template 'for every input the law returns true; each argument reads behind the call as it read before'; 0 by the template 'total and deterministic' (their statements: YtbldllghkfgkeaaTotals.lean).
  GIVEN WITH THE SEED: the statements are not yours to turn. If you find one false, say at which input.
  Laid BY PROGRAM, IN A SANDBOX (cutbox-rows.mjs): the forced cells as the released guide's own fill.sh prints them over the translation 5ab76037e6355c26… (all of the seat's roots in one cut). By AI agents, Wed Nov 11 2026. No macro, syntax, notation, axiom, sorry.
-/
import Derived.Test.YtbldllghkfgkeaaChecked
import GoSem.Claim
import GoSem.ClaimJoined
import GoSem.ClaimMapViews
import Derived.JoinedTies
import Derived.KernelRfl
namespace Go.Proofs.Ytbldllghkfgkeaa
/- THE CELL 'sum', in the pinned program and in every row, IS THE sha256 OF THE DUMP (.gsa) THAT YtbldllghkfgkeaaProg.lean LOADS. Nothing in Lean hashes anything: it is a label: what it is worth is what the hold of that sum in a sandbox is worth. -/
noncomputable def Try.pinned : Pinned := { name := "ytbldllghkfgkeaa", sum := "5ab76037e6355c26c92d2f5003d0eae0172db348e4e14e03af415232e4b97de4", checked := Try.checked }
namespace Rows
def none {H : Type} : Left H := { results := [], args := [] }

/-- 'heliastlaw20.ParkOut': WHATEVER THE INPUT: true; the input reads as it did. -/
def parkOutSpec : ChangeSpec := { name := "parkOut", fn := fun _ => fun
  | [d1, d2] => { results := [.lit (.bool true)], args := [d1, d2] }
  | _ => none }
def parkOutRow : OpenClaim := { program := "ytbldllghkfgkeaa", sum := "5ab76037e6355c26c92d2f5003d0eae0172db348e4e14e03af415232e4b97de4", func := "heliast/heliastlaw20.ParkOut", spec := "parkOut", unfollowed := true, recurses := true, apart := false }
def ParkOutSaid : Prop := parkOutRow.holds Try.pinned (OpenSpec.ofChange parkOutSpec)

/-- ITS FALSE NEIGHBOUR: 'it returns false'. Refute it at one input. -/
def parkOutWrong : ChangeSpec := { name := "parkOut", fn := fun _ => fun
  | [d1, d2] => { results := [.lit (.bool false)], args := [d1, d2] }
  | _ => none }
def ParkOutWrongFalsely : Prop := parkOutRow.holds Try.pinned (OpenSpec.ofChange parkOutWrong)

/-- 'heliastlaw20.ParkTwice': WHATEVER THE INPUT: true; the input reads as it did. -/
def parkTwiceSpec : ChangeSpec := { name := "parkTwice", fn := fun _ => fun
  | [d1, d2] => { results := [.lit (.bool true)], args := [d1, d2] }
  | _ => none }
def parkTwiceRow : OpenClaim := { program := "ytbldllghkfgkeaa", sum := "5ab76037e6355c26c92d2f5003d0eae0172db348e4e14e03af415232e4b97de4", func := "heliast/heliastlaw20.ParkTwice", spec := "parkTwice", unfollowed := true, recurses := true, apart := false }
def ParkTwiceSaid : Prop := parkTwiceRow.holds Try.pinned (OpenSpec.ofChange parkTwiceSpec)

/-- ITS FALSE NEIGHBOUR: 'it returns false'. Refute it at one input. -/
def parkTwiceWrong : ChangeSpec := { name := "parkTwice", fn := fun _ => fun
  | [d1, d2] => { results := [.lit (.bool false)], args := [d1, d2] }
  | _ => none }
def ParkTwiceWrongFalsely : Prop := parkTwiceRow.holds Try.pinned (OpenSpec.ofChange parkTwiceWrong)

/-- 'heliastlaw17.OrderMainline': WHATEVER THE INPUT: true; the input reads as it did. -/
def orderMainlineSpec : ChangeSpec := { name := "orderMainline", fn := fun _ => fun
  | [d1, d2] => { results := [.lit (.bool true)], args := [d1, d2] }
  | _ => none }
def orderMainlineRow : OpenClaim := { program := "ytbldllghkfgkeaa", sum := "5ab76037e6355c26c92d2f5003d0eae0172db348e4e14e03af415232e4b97de4", func := "heliast/heliastlaw17.OrderMainline", spec := "orderMainline", unfollowed := true, recurses := true, apart := false }
def OrderMainlineSaid : Prop := orderMainlineRow.holds Try.pinned (OpenSpec.ofChange orderMainlineSpec)

/-- ITS FALSE NEIGHBOUR: 'it returns false'. Refute it at one input. -/
def orderMainlineWrong : ChangeSpec := { name := "orderMainline", fn := fun _ => fun
  | [d1, d2] => { results := [.lit (.bool false)], args := [d1, d2] }
  | _ => none }
def OrderMainlineWrongFalsely : Prop := orderMainlineRow.holds Try.pinned (OpenSpec.ofChange orderMainlineWrong)

/-- 'heliastlaw17.OrderLevel': WHATEVER THE INPUT: true; the input reads as it did. -/
def orderLevelSpec : ChangeSpec := { name := "orderLevel", fn := fun _ => fun
  | [d1, d2] => { results := [.lit (.bool true)], args := [d1, d2] }
  | _ => none }
def orderLevelRow : OpenClaim := { program := "ytbldllghkfgkeaa", sum := "5ab76037e6355c26c92d2f5003d0eae0172db348e4e14e03af415232e4b97de4", func := "heliast/heliastlaw17.OrderLevel", spec := "orderLevel", unfollowed := true, recurses := true, apart := false }
def OrderLevelSaid : Prop := orderLevelRow.holds Try.pinned (OpenSpec.ofChange orderLevelSpec)

/-- ITS FALSE NEIGHBOUR: 'it returns false'. Refute it at one input. -/
def orderLevelWrong : ChangeSpec := { name := "orderLevel", fn := fun _ => fun
  | [d1, d2] => { results := [.lit (.bool false)], args := [d1, d2] }
  | _ => none }
def OrderLevelWrongFalsely : Prop := orderLevelRow.holds Try.pinned (OpenSpec.ofChange orderLevelWrong)

/-- 'heliastlaw12.GraphLong': WHATEVER THE INPUT: true; the input reads as it did. -/
def graphLongSpec : ChangeSpec := { name := "graphLong", fn := fun _ => fun
  | [d1, d2] => { results := [.lit (.bool true)], args := [d1, d2] }
  | _ => none }
def graphLongRow : OpenClaim := { program := "ytbldllghkfgkeaa", sum := "5ab76037e6355c26c92d2f5003d0eae0172db348e4e14e03af415232e4b97de4", func := "heliast/heliastlaw12.GraphLong", spec := "graphLong", unfollowed := true, recurses := true, apart := false }
def GraphLongSaid : Prop := graphLongRow.holds Try.pinned (OpenSpec.ofChange graphLongSpec)

/-- ITS FALSE NEIGHBOUR: 'it returns false'. Refute it at one input. -/
def graphLongWrong : ChangeSpec := { name := "graphLong", fn := fun _ => fun
  | [d1, d2] => { results := [.lit (.bool false)], args := [d1, d2] }
  | _ => none }
def GraphLongWrongFalsely : Prop := graphLongRow.holds Try.pinned (OpenSpec.ofChange graphLongWrong)

/-- 'heliastlaw12.GraphNatural': WHATEVER THE INPUT: true; the input reads as it did. -/
def graphNaturalSpec : ChangeSpec := { name := "graphNatural", fn := fun _ => fun
  | [d] => { results := [.lit (.bool true)], args := [d] }
  | _ => none }
def graphNaturalRow : OpenClaim := { program := "ytbldllghkfgkeaa", sum := "5ab76037e6355c26c92d2f5003d0eae0172db348e4e14e03af415232e4b97de4", func := "heliast/heliastlaw12.GraphNatural", spec := "graphNatural", unfollowed := true, recurses := true, apart := false }
def GraphNaturalSaid : Prop := graphNaturalRow.holds Try.pinned (OpenSpec.ofChange graphNaturalSpec)

/-- ITS FALSE NEIGHBOUR: 'it returns false'. Refute it at one input. -/
def graphNaturalWrong : ChangeSpec := { name := "graphNatural", fn := fun _ => fun
  | [d] => { results := [.lit (.bool false)], args := [d] }
  | _ => none }
def GraphNaturalWrongFalsely : Prop := graphNaturalRow.holds Try.pinned (OpenSpec.ofChange graphNaturalWrong)

/-- 'heliastlaw12.GraphReach': WHATEVER THE INPUT: true; the input reads as it did. -/
def graphReachSpec : ChangeSpec := { name := "graphReach", fn := fun _ => fun
  | [d1, d2, d3] => { results := [.lit (.bool true)], args := [d1, d2, d3] }
  | _ => none }
def graphReachRow : OpenClaim := { program := "ytbldllghkfgkeaa", sum := "5ab76037e6355c26c92d2f5003d0eae0172db348e4e14e03af415232e4b97de4", func := "heliast/heliastlaw12.GraphReach", spec := "graphReach", unfollowed := true, recurses := true, apart := false }
def GraphReachSaid : Prop := graphReachRow.holds Try.pinned (OpenSpec.ofChange graphReachSpec)

/-- ITS FALSE NEIGHBOUR: 'it returns false'. Refute it at one input. -/
def graphReachWrong : ChangeSpec := { name := "graphReach", fn := fun _ => fun
  | [d1, d2, d3] => { results := [.lit (.bool false)], args := [d1, d2, d3] }
  | _ => none }
def GraphReachWrongFalsely : Prop := graphReachRow.holds Try.pinned (OpenSpec.ofChange graphReachWrong)

/-- 'heliastlaw12.GraphOrder': WHATEVER THE INPUT: true; the input reads as it did. -/
def graphOrderSpec : ChangeSpec := { name := "graphOrder", fn := fun _ => fun
  | [d1, d2, d3] => { results := [.lit (.bool true)], args := [d1, d2, d3] }
  | _ => none }
def graphOrderRow : OpenClaim := { program := "ytbldllghkfgkeaa", sum := "5ab76037e6355c26c92d2f5003d0eae0172db348e4e14e03af415232e4b97de4", func := "heliast/heliastlaw12.GraphOrder", spec := "graphOrder", unfollowed := true, recurses := true, apart := false }
def GraphOrderSaid : Prop := graphOrderRow.holds Try.pinned (OpenSpec.ofChange graphOrderSpec)

/-- ITS FALSE NEIGHBOUR: 'it returns false'. Refute it at one input. -/
def graphOrderWrong : ChangeSpec := { name := "graphOrder", fn := fun _ => fun
  | [d1, d2, d3] => { results := [.lit (.bool false)], args := [d1, d2, d3] }
  | _ => none }
def GraphOrderWrongFalsely : Prop := graphOrderRow.holds Try.pinned (OpenSpec.ofChange graphOrderWrong)

/-- 'heliastlaw12.GraphPast': WHATEVER THE INPUT: true; the input reads as it did. -/
def graphPastSpec : ChangeSpec := { name := "graphPast", fn := fun _ => fun
  | [d1, d2] => { results := [.lit (.bool true)], args := [d1, d2] }
  | _ => none }
def graphPastRow : OpenClaim := { program := "ytbldllghkfgkeaa", sum := "5ab76037e6355c26c92d2f5003d0eae0172db348e4e14e03af415232e4b97de4", func := "heliast/heliastlaw12.GraphPast", spec := "graphPast", unfollowed := true, recurses := true, apart := false }
def GraphPastSaid : Prop := graphPastRow.holds Try.pinned (OpenSpec.ofChange graphPastSpec)

/-- ITS FALSE NEIGHBOUR: 'it returns false'. Refute it at one input. -/
def graphPastWrong : ChangeSpec := { name := "graphPast", fn := fun _ => fun
  | [d1, d2] => { results := [.lit (.bool false)], args := [d1, d2] }
  | _ => none }
def GraphPastWrongFalsely : Prop := graphPastRow.holds Try.pinned (OpenSpec.ofChange graphPastWrong)

/-- 'heliastlaw12.GraphStep': WHATEVER THE INPUT: true; the input reads as it did. -/
def graphStepSpec : ChangeSpec := { name := "graphStep", fn := fun _ => fun
  | [d1, d2, d3] => { results := [.lit (.bool true)], args := [d1, d2, d3] }
  | _ => none }
def graphStepRow : OpenClaim := { program := "ytbldllghkfgkeaa", sum := "5ab76037e6355c26c92d2f5003d0eae0172db348e4e14e03af415232e4b97de4", func := "heliast/heliastlaw12.GraphStep", spec := "graphStep", unfollowed := true, recurses := true, apart := false }
def GraphStepSaid : Prop := graphStepRow.holds Try.pinned (OpenSpec.ofChange graphStepSpec)

/-- ITS FALSE NEIGHBOUR: 'it returns false'. Refute it at one input. -/
def graphStepWrong : ChangeSpec := { name := "graphStep", fn := fun _ => fun
  | [d1, d2, d3] => { results := [.lit (.bool false)], args := [d1, d2, d3] }
  | _ => none }
def GraphStepWrongFalsely : Prop := graphStepRow.holds Try.pinned (OpenSpec.ofChange graphStepWrong)

/-- 'heliastlaw13.StatePlaces': WHATEVER THE INPUT: true; the input reads as it did. -/
def statePlacesSpec : ChangeSpec := { name := "statePlaces", fn := fun _ => fun
  | [d1, d2] => { results := [.lit (.bool true)], args := [d1, d2] }
  | _ => none }
def statePlacesRow : OpenClaim := { program := "ytbldllghkfgkeaa", sum := "5ab76037e6355c26c92d2f5003d0eae0172db348e4e14e03af415232e4b97de4", func := "heliast/heliastlaw13.StatePlaces", spec := "statePlaces", inPlace := ["slices.overlaps[heliast/api.Entry]"], unfollowed := true, recurses := true, apart := false }
def StatePlacesSaid : Prop := statePlacesRow.holds Try.pinned (OpenSpec.ofChange statePlacesSpec)

/-- ITS FALSE NEIGHBOUR: 'it returns false'. Refute it at one input. -/
def statePlacesWrong : ChangeSpec := { name := "statePlaces", fn := fun _ => fun
  | [d1, d2] => { results := [.lit (.bool false)], args := [d1, d2] }
  | _ => none }
def StatePlacesWrongFalsely : Prop := statePlacesRow.holds Try.pinned (OpenSpec.ofChange statePlacesWrong)

/-- 'heliastlaw13.StateAsks': WHATEVER THE INPUT: true; the input reads as it did. -/
def stateAsksSpec : ChangeSpec := { name := "stateAsks", fn := fun _ => fun
  | [d1, d2, d3, d4, d5, d6] => { results := [.lit (.bool true)], args := [d1, d2, d3, d4, d5, d6] }
  | _ => none }
def stateAsksRow : OpenClaim := { program := "ytbldllghkfgkeaa", sum := "5ab76037e6355c26c92d2f5003d0eae0172db348e4e14e03af415232e4b97de4", func := "heliast/heliastlaw13.StateAsks", spec := "stateAsks", inPlace := ["slices.overlaps[heliast/api.Entry]"], unfollowed := true, recurses := true, apart := false }
def StateAsksSaid : Prop := stateAsksRow.holds Try.pinned (OpenSpec.ofChange stateAsksSpec)

/-- ITS FALSE NEIGHBOUR: 'it returns false'. Refute it at one input. -/
def stateAsksWrong : ChangeSpec := { name := "stateAsks", fn := fun _ => fun
  | [d1, d2, d3, d4, d5, d6] => { results := [.lit (.bool false)], args := [d1, d2, d3, d4, d5, d6] }
  | _ => none }
def StateAsksWrongFalsely : Prop := stateAsksRow.holds Try.pinned (OpenSpec.ofChange stateAsksWrong)

/- THE SECOND FORM. 'bulk': how many values and letters a reading holds, each counted each time it is reached (what is shared counts as often as it is met; a slice's spare places count too). A statement '..UptoSaid' is the law's where the arguments, and the package variables that the reading takes, are together of bulk at most 1048576: NARROWER than '..Said'. Prove '..Said' where nothing that the law and all that it calls make is longer than what came in: it says more and counts as full. Else prove '..UptoSaid'. A law counts once. -/
mutual
def uptoBulk {H : Type} : DataW H → Nat
  | .lit (.string bytes) => bytes.length + 1
  | .lit _ => 1
  | .nil => 1
  | .ptr d => uptoBulk d + 1
  | .slice elems spare => uptoBulkAll elems + uptoBulkAll spare + 1
  | .agg parts => uptoBulkAll parts + 1
  | .iface _ d => uptoBulk d + 1
  | .map entries => uptoBulkEntries entries + 1
  | .held _ => 1
def uptoBulkAll {H : Type} : List (DataW H) → Nat
  | [] => 0
  | d :: r => uptoBulk d + uptoBulkAll r
def uptoBulkEntries {H : Type} : List (Lit × DataW H) → Nat
  | [] => 0
  | x :: r => uptoBulkEntry x + uptoBulkEntries r
def uptoBulkEntry {H : Type} : Lit × DataW H → Nat
  | (.string bytes, d) => bytes.length + uptoBulk d + 1
  | (_, d) => uptoBulk d + 1
 end
def uptoSmall : (H : Type) → List (DataW H) → Bool := fun _ ds => decide (uptoBulkAll ds ≤ 1048576)
def OpenSpec.upto (s : _root_.Go.ChangeSpec) : _root_.Go.OpenSpec := { _root_.Go.OpenSpec.ofChange s with cond := some uptoSmall }

/-- 'heliastlaw20.ParkOut', WHERE WHAT IT READS IS OF BULK AT MOST 1048576: true; the input reads as it did. -/
def parkOutUptoRow : OpenClaim := { program := "ytbldllghkfgkeaa", sum := "5ab76037e6355c26c92d2f5003d0eae0172db348e4e14e03af415232e4b97de4", func := "heliast/heliastlaw20.ParkOut", spec := "parkOut", unfollowed := true, recurses := true, apart := false, narrowed := true }
def ParkOutUptoSaid : Prop := parkOutUptoRow.holds Try.pinned (OpenSpec.upto parkOutSpec)

/-- 'heliastlaw20.ParkTwice', WHERE WHAT IT READS IS OF BULK AT MOST 1048576: true; the input reads as it did. -/
def parkTwiceUptoRow : OpenClaim := { program := "ytbldllghkfgkeaa", sum := "5ab76037e6355c26c92d2f5003d0eae0172db348e4e14e03af415232e4b97de4", func := "heliast/heliastlaw20.ParkTwice", spec := "parkTwice", unfollowed := true, recurses := true, apart := false, narrowed := true }
def ParkTwiceUptoSaid : Prop := parkTwiceUptoRow.holds Try.pinned (OpenSpec.upto parkTwiceSpec)

/-- 'heliastlaw17.OrderMainline', WHERE WHAT IT READS IS OF BULK AT MOST 1048576: true; the input reads as it did. -/
def orderMainlineUptoRow : OpenClaim := { program := "ytbldllghkfgkeaa", sum := "5ab76037e6355c26c92d2f5003d0eae0172db348e4e14e03af415232e4b97de4", func := "heliast/heliastlaw17.OrderMainline", spec := "orderMainline", unfollowed := true, recurses := true, apart := false, narrowed := true }
def OrderMainlineUptoSaid : Prop := orderMainlineUptoRow.holds Try.pinned (OpenSpec.upto orderMainlineSpec)

/-- 'heliastlaw17.OrderLevel', WHERE WHAT IT READS IS OF BULK AT MOST 1048576: true; the input reads as it did. -/
def orderLevelUptoRow : OpenClaim := { program := "ytbldllghkfgkeaa", sum := "5ab76037e6355c26c92d2f5003d0eae0172db348e4e14e03af415232e4b97de4", func := "heliast/heliastlaw17.OrderLevel", spec := "orderLevel", unfollowed := true, recurses := true, apart := false, narrowed := true }
def OrderLevelUptoSaid : Prop := orderLevelUptoRow.holds Try.pinned (OpenSpec.upto orderLevelSpec)

/-- 'heliastlaw12.GraphLong', WHERE WHAT IT READS IS OF BULK AT MOST 1048576: true; the input reads as it did. -/
def graphLongUptoRow : OpenClaim := { program := "ytbldllghkfgkeaa", sum := "5ab76037e6355c26c92d2f5003d0eae0172db348e4e14e03af415232e4b97de4", func := "heliast/heliastlaw12.GraphLong", spec := "graphLong", unfollowed := true, recurses := true, apart := false, narrowed := true }
def GraphLongUptoSaid : Prop := graphLongUptoRow.holds Try.pinned (OpenSpec.upto graphLongSpec)

/-- 'heliastlaw12.GraphNatural', WHERE WHAT IT READS IS OF BULK AT MOST 1048576: true; the input reads as it did. -/
def graphNaturalUptoRow : OpenClaim := { program := "ytbldllghkfgkeaa", sum := "5ab76037e6355c26c92d2f5003d0eae0172db348e4e14e03af415232e4b97de4", func := "heliast/heliastlaw12.GraphNatural", spec := "graphNatural", unfollowed := true, recurses := true, apart := false, narrowed := true }
def GraphNaturalUptoSaid : Prop := graphNaturalUptoRow.holds Try.pinned (OpenSpec.upto graphNaturalSpec)

/-- 'heliastlaw12.GraphReach', WHERE WHAT IT READS IS OF BULK AT MOST 1048576: true; the input reads as it did. -/
def graphReachUptoRow : OpenClaim := { program := "ytbldllghkfgkeaa", sum := "5ab76037e6355c26c92d2f5003d0eae0172db348e4e14e03af415232e4b97de4", func := "heliast/heliastlaw12.GraphReach", spec := "graphReach", unfollowed := true, recurses := true, apart := false, narrowed := true }
def GraphReachUptoSaid : Prop := graphReachUptoRow.holds Try.pinned (OpenSpec.upto graphReachSpec)

/-- 'heliastlaw12.GraphOrder', WHERE WHAT IT READS IS OF BULK AT MOST 1048576: true; the input reads as it did. -/
def graphOrderUptoRow : OpenClaim := { program := "ytbldllghkfgkeaa", sum := "5ab76037e6355c26c92d2f5003d0eae0172db348e4e14e03af415232e4b97de4", func := "heliast/heliastlaw12.GraphOrder", spec := "graphOrder", unfollowed := true, recurses := true, apart := false, narrowed := true }
def GraphOrderUptoSaid : Prop := graphOrderUptoRow.holds Try.pinned (OpenSpec.upto graphOrderSpec)

/-- 'heliastlaw12.GraphPast', WHERE WHAT IT READS IS OF BULK AT MOST 1048576: true; the input reads as it did. -/
def graphPastUptoRow : OpenClaim := { program := "ytbldllghkfgkeaa", sum := "5ab76037e6355c26c92d2f5003d0eae0172db348e4e14e03af415232e4b97de4", func := "heliast/heliastlaw12.GraphPast", spec := "graphPast", unfollowed := true, recurses := true, apart := false, narrowed := true }
def GraphPastUptoSaid : Prop := graphPastUptoRow.holds Try.pinned (OpenSpec.upto graphPastSpec)

/-- 'heliastlaw12.GraphStep', WHERE WHAT IT READS IS OF BULK AT MOST 1048576: true; the input reads as it did. -/
def graphStepUptoRow : OpenClaim := { program := "ytbldllghkfgkeaa", sum := "5ab76037e6355c26c92d2f5003d0eae0172db348e4e14e03af415232e4b97de4", func := "heliast/heliastlaw12.GraphStep", spec := "graphStep", unfollowed := true, recurses := true, apart := false, narrowed := true }
def GraphStepUptoSaid : Prop := graphStepUptoRow.holds Try.pinned (OpenSpec.upto graphStepSpec)

/-- 'heliastlaw13.StatePlaces', WHERE WHAT IT READS IS OF BULK AT MOST 1048576: true; the input reads as it did. -/
def statePlacesUptoRow : OpenClaim := { program := "ytbldllghkfgkeaa", sum := "5ab76037e6355c26c92d2f5003d0eae0172db348e4e14e03af415232e4b97de4", func := "heliast/heliastlaw13.StatePlaces", spec := "statePlaces", inPlace := ["slices.overlaps[heliast/api.Entry]"], unfollowed := true, recurses := true, apart := false, narrowed := true }
def StatePlacesUptoSaid : Prop := statePlacesUptoRow.holds Try.pinned (OpenSpec.upto statePlacesSpec)

/-- 'heliastlaw13.StateAsks', WHERE WHAT IT READS IS OF BULK AT MOST 1048576: true; the input reads as it did. -/
def stateAsksUptoRow : OpenClaim := { program := "ytbldllghkfgkeaa", sum := "5ab76037e6355c26c92d2f5003d0eae0172db348e4e14e03af415232e4b97de4", func := "heliast/heliastlaw13.StateAsks", spec := "stateAsks", inPlace := ["slices.overlaps[heliast/api.Entry]"], unfollowed := true, recurses := true, apart := false, narrowed := true }
def StateAsksUptoSaid : Prop := stateAsksUptoRow.holds Try.pinned (OpenSpec.upto stateAsksSpec)

end Rows
end Go.Proofs.Ytbldllghkfgkeaa
