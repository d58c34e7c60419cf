/-
  No cell of these rows narrows 'for every input' (looked for: loops, veiled, ifaces, maps, wideKeys, modest, calm, conditions, laid).
  DERIVED. THE GIVEN ROWS OF THIS SEAT. 12 by the template 'for every input the law returns true; each argument reads behind the call as it read before'; 0 by the template 'total and deterministic' (their statements: YtmmalieacakcbaaTotals.lean).
  GIVEN WITH THE SEED: the statements are not yours to turn. If you find one false, say at which input.
  Laid BY PROGRAM, IN A SANDBOX (cutbox-rows.mjs): the forced cells as the released guide's own fill.sh prints them over the translation a2e44fe129e951ea… (all of the seat's roots in one cut). By AI agents, Wed Nov 11 2026. No macro, syntax, notation, axiom, sorry.
-/
import Derived.Test.YtmmalieacakcbaaChecked
import GoSem.Claim
import GoSem.ClaimJoined
import GoSem.ClaimMapViews
import Derived.JoinedTies
import Derived.KernelRfl
namespace Go.Proofs.Ytmmalieacakcbaa
/- THE CELL 'sum', in the pinned program and in every row, IS THE sha256 OF THE DUMP (.gsa) THAT YtmmalieacakcbaaProg.lean LOADS. Nothing in Lean hashes anything: it is a label: what it is worth is what the hold of that sum in a sandbox is worth. -/
noncomputable def Try.pinned : Pinned := { name := "ytmmalieacakcbaa", sum := "a2e44fe129e951ea13d3f147565331047bbc1976a34360492d0e55113eb57892", checked := Try.checked }
namespace Rows
def none {H : Type} : Left H := { results := [], args := [] }

/-- 'heliastlaw20.ParkDoes': WHATEVER THE INPUT: true; the input reads as it did. -/
def parkDoesSpec : ChangeSpec := { name := "parkDoes", fn := fun _ => fun
  | [d] => { results := [.lit (.bool true)], args := [d] }
  | _ => none }
def parkDoesRow : OpenClaim := { program := "ytmmalieacakcbaa", sum := "a2e44fe129e951ea13d3f147565331047bbc1976a34360492d0e55113eb57892", func := "heliast/heliastlaw20.ParkDoes", spec := "parkDoes", unfollowed := true, recurses := true, plainKeys := false, apart := false }
def ParkDoesSaid : Prop := parkDoesRow.holds Try.pinned (OpenSpec.ofChange parkDoesSpec)

/-- ITS FALSE NEIGHBOUR: 'it returns false'. Refute it at one input. -/
def parkDoesWrong : ChangeSpec := { name := "parkDoes", fn := fun _ => fun
  | [d] => { results := [.lit (.bool false)], args := [d] }
  | _ => none }
def ParkDoesWrongFalsely : Prop := parkDoesRow.holds Try.pinned (OpenSpec.ofChange parkDoesWrong)

/-- 'heliastlaw20.ParkBusy': WHATEVER THE INPUT: true; the input reads as it did. -/
def parkBusySpec : ChangeSpec := { name := "parkBusy", fn := fun _ => fun
  | [d] => { results := [.lit (.bool true)], args := [d] }
  | _ => none }
def parkBusyRow : OpenClaim := { program := "ytmmalieacakcbaa", sum := "a2e44fe129e951ea13d3f147565331047bbc1976a34360492d0e55113eb57892", func := "heliast/heliastlaw20.ParkBusy", spec := "parkBusy", unfollowed := true, recurses := true, plainKeys := false, apart := false }
def ParkBusySaid : Prop := parkBusyRow.holds Try.pinned (OpenSpec.ofChange parkBusySpec)

/-- ITS FALSE NEIGHBOUR: 'it returns false'. Refute it at one input. -/
def parkBusyWrong : ChangeSpec := { name := "parkBusy", fn := fun _ => fun
  | [d] => { results := [.lit (.bool false)], args := [d] }
  | _ => none }
def ParkBusyWrongFalsely : Prop := parkBusyRow.holds Try.pinned (OpenSpec.ofChange parkBusyWrong)

/-- 'heliastlaw20.ParkLost': WHATEVER THE INPUT: true; the input reads as it did. -/
def parkLostSpec : ChangeSpec := { name := "parkLost", fn := fun _ => fun
  | [d1, d2] => { results := [.lit (.bool true)], args := [d1, d2] }
  | _ => none }
def parkLostRow : OpenClaim := { program := "ytmmalieacakcbaa", sum := "a2e44fe129e951ea13d3f147565331047bbc1976a34360492d0e55113eb57892", func := "heliast/heliastlaw20.ParkLost", spec := "parkLost", unfollowed := true, recurses := true, plainKeys := false, apart := false }
def ParkLostSaid : Prop := parkLostRow.holds Try.pinned (OpenSpec.ofChange parkLostSpec)

/-- ITS FALSE NEIGHBOUR: 'it returns false'. Refute it at one input. -/
def parkLostWrong : ChangeSpec := { name := "parkLost", fn := fun _ => fun
  | [d1, d2] => { results := [.lit (.bool false)], args := [d1, d2] }
  | _ => none }
def ParkLostWrongFalsely : Prop := parkLostRow.holds Try.pinned (OpenSpec.ofChange parkLostWrong)

/-- 'heliastlaw20.ParkNone': WHATEVER THE INPUT: true; the input reads as it did. -/
def parkNoneSpec : ChangeSpec := { name := "parkNone", fn := fun _ => fun
  | [d1, d2] => { results := [.lit (.bool true)], args := [d1, d2] }
  | _ => none }
def parkNoneRow : OpenClaim := { program := "ytmmalieacakcbaa", sum := "a2e44fe129e951ea13d3f147565331047bbc1976a34360492d0e55113eb57892", func := "heliast/heliastlaw20.ParkNone", spec := "parkNone", unfollowed := true, recurses := true, plainKeys := false, apart := false }
def ParkNoneSaid : Prop := parkNoneRow.holds Try.pinned (OpenSpec.ofChange parkNoneSpec)

/-- ITS FALSE NEIGHBOUR: 'it returns false'. Refute it at one input. -/
def parkNoneWrong : ChangeSpec := { name := "parkNone", fn := fun _ => fun
  | [d1, d2] => { results := [.lit (.bool false)], args := [d1, d2] }
  | _ => none }
def ParkNoneWrongFalsely : Prop := parkNoneRow.holds Try.pinned (OpenSpec.ofChange parkNoneWrong)

/-- 'heliastlaw16.SplitAll': WHATEVER THE INPUT: true; the input reads as it did. -/
def splitAllSpec : ChangeSpec := { name := "splitAll", fn := fun _ => fun
  | [d1, d2] => { results := [.lit (.bool true)], args := [d1, d2] }
  | _ => none }
def splitAllRow : OpenClaim := { program := "ytmmalieacakcbaa", sum := "a2e44fe129e951ea13d3f147565331047bbc1976a34360492d0e55113eb57892", func := "heliast/heliastlaw16.SplitAll", spec := "splitAll", unfollowed := true, recurses := true, plainKeys := false, apart := false }
def SplitAllSaid : Prop := splitAllRow.holds Try.pinned (OpenSpec.ofChange splitAllSpec)

/-- ITS FALSE NEIGHBOUR: 'it returns false'. Refute it at one input. -/
def splitAllWrong : ChangeSpec := { name := "splitAll", fn := fun _ => fun
  | [d1, d2] => { results := [.lit (.bool false)], args := [d1, d2] }
  | _ => none }
def SplitAllWrongFalsely : Prop := splitAllRow.holds Try.pinned (OpenSpec.ofChange splitAllWrong)

/-- 'heliastlaw16.SplitChains': WHATEVER THE INPUT: true; the input reads as it did. -/
def splitChainsSpec : ChangeSpec := { name := "splitChains", fn := fun _ => fun
  | [d1, d2, d3] => { results := [.lit (.bool true)], args := [d1, d2, d3] }
  | _ => none }
def splitChainsRow : OpenClaim := { program := "ytmmalieacakcbaa", sum := "a2e44fe129e951ea13d3f147565331047bbc1976a34360492d0e55113eb57892", func := "heliast/heliastlaw16.SplitChains", spec := "splitChains", unfollowed := true, recurses := true, plainKeys := false, apart := false }
def SplitChainsSaid : Prop := splitChainsRow.holds Try.pinned (OpenSpec.ofChange splitChainsSpec)

/-- ITS FALSE NEIGHBOUR: 'it returns false'. Refute it at one input. -/
def splitChainsWrong : ChangeSpec := { name := "splitChains", fn := fun _ => fun
  | [d1, d2, d3] => { results := [.lit (.bool false)], args := [d1, d2, d3] }
  | _ => none }
def SplitChainsWrongFalsely : Prop := splitChainsRow.holds Try.pinned (OpenSpec.ofChange splitChainsWrong)

/-- 'heliastlaw16.SplitAsks': WHATEVER THE INPUT: true; the input reads as it did. -/
def splitAsksSpec : ChangeSpec := { name := "splitAsks", fn := fun _ => fun
  | [d1, d2, d3, d4] => { results := [.lit (.bool true)], args := [d1, d2, d3, d4] }
  | _ => none }
def splitAsksRow : OpenClaim := { program := "ytmmalieacakcbaa", sum := "a2e44fe129e951ea13d3f147565331047bbc1976a34360492d0e55113eb57892", func := "heliast/heliastlaw16.SplitAsks", spec := "splitAsks", unfollowed := true, recurses := true, plainKeys := false, apart := false }
def SplitAsksSaid : Prop := splitAsksRow.holds Try.pinned (OpenSpec.ofChange splitAsksSpec)

/-- ITS FALSE NEIGHBOUR: 'it returns false'. Refute it at one input. -/
def splitAsksWrong : ChangeSpec := { name := "splitAsks", fn := fun _ => fun
  | [d1, d2, d3, d4] => { results := [.lit (.bool false)], args := [d1, d2, d3, d4] }
  | _ => none }
def SplitAsksWrongFalsely : Prop := splitAsksRow.holds Try.pinned (OpenSpec.ofChange splitAsksWrong)

/-- 'heliastlaw16.SplitBoth': WHATEVER THE INPUT: true; the input reads as it did. -/
def splitBothSpec : ChangeSpec := { name := "splitBoth", fn := fun _ => fun
  | [d1, d2, d3] => { results := [.lit (.bool true)], args := [d1, d2, d3] }
  | _ => none }
def splitBothRow : OpenClaim := { program := "ytmmalieacakcbaa", sum := "a2e44fe129e951ea13d3f147565331047bbc1976a34360492d0e55113eb57892", func := "heliast/heliastlaw16.SplitBoth", spec := "splitBoth", unfollowed := true, recurses := true, plainKeys := false, apart := false }
def SplitBothSaid : Prop := splitBothRow.holds Try.pinned (OpenSpec.ofChange splitBothSpec)

/-- ITS FALSE NEIGHBOUR: 'it returns false'. Refute it at one input. -/
def splitBothWrong : ChangeSpec := { name := "splitBoth", fn := fun _ => fun
  | [d1, d2, d3] => { results := [.lit (.bool false)], args := [d1, d2, d3] }
  | _ => none }
def SplitBothWrongFalsely : Prop := splitBothRow.holds Try.pinned (OpenSpec.ofChange splitBothWrong)

/-- 'heliastlaw12.GraphHeads': WHATEVER THE INPUT: true; the input reads as it did. -/
def graphHeadsSpec : ChangeSpec := { name := "graphHeads", fn := fun _ => fun
  | [d1, d2, d3] => { results := [.lit (.bool true)], args := [d1, d2, d3] }
  | _ => none }
def graphHeadsRow : OpenClaim := { program := "ytmmalieacakcbaa", sum := "a2e44fe129e951ea13d3f147565331047bbc1976a34360492d0e55113eb57892", func := "heliast/heliastlaw12.GraphHeads", spec := "graphHeads", unfollowed := true, recurses := true, plainKeys := false, apart := false }
def GraphHeadsSaid : Prop := graphHeadsRow.holds Try.pinned (OpenSpec.ofChange graphHeadsSpec)

/-- ITS FALSE NEIGHBOUR: 'it returns false'. Refute it at one input. -/
def graphHeadsWrong : ChangeSpec := { name := "graphHeads", fn := fun _ => fun
  | [d1, d2, d3] => { results := [.lit (.bool false)], args := [d1, d2, d3] }
  | _ => none }
def GraphHeadsWrongFalsely : Prop := graphHeadsRow.holds Try.pinned (OpenSpec.ofChange graphHeadsWrong)

/-- 'heliastlaw16.SplitOne': WHATEVER THE INPUT: true; the input reads as it did. -/
def splitOneSpec : ChangeSpec := { name := "splitOne", fn := fun _ => fun
  | [d1, d2] => { results := [.lit (.bool true)], args := [d1, d2] }
  | _ => none }
def splitOneRow : OpenClaim := { program := "ytmmalieacakcbaa", sum := "a2e44fe129e951ea13d3f147565331047bbc1976a34360492d0e55113eb57892", func := "heliast/heliastlaw16.SplitOne", spec := "splitOne", unfollowed := true, recurses := true, plainKeys := false, apart := false }
def SplitOneSaid : Prop := splitOneRow.holds Try.pinned (OpenSpec.ofChange splitOneSpec)

/-- ITS FALSE NEIGHBOUR: 'it returns false'. Refute it at one input. -/
def splitOneWrong : ChangeSpec := { name := "splitOne", fn := fun _ => fun
  | [d1, d2] => { results := [.lit (.bool false)], args := [d1, d2] }
  | _ => none }
def SplitOneWrongFalsely : Prop := splitOneRow.holds Try.pinned (OpenSpec.ofChange splitOneWrong)

/-- 'heliastlaw16.SplitOrder': WHATEVER THE INPUT: true; the input reads as it did. -/
def splitOrderSpec : ChangeSpec := { name := "splitOrder", fn := fun _ => fun
  | [d1, d2, d3, d4] => { results := [.lit (.bool true)], args := [d1, d2, d3, d4] }
  | _ => none }
def splitOrderRow : OpenClaim := { program := "ytmmalieacakcbaa", sum := "a2e44fe129e951ea13d3f147565331047bbc1976a34360492d0e55113eb57892", func := "heliast/heliastlaw16.SplitOrder", spec := "splitOrder", unfollowed := true, recurses := true, plainKeys := false, apart := false }
def SplitOrderSaid : Prop := splitOrderRow.holds Try.pinned (OpenSpec.ofChange splitOrderSpec)

/-- ITS FALSE NEIGHBOUR: 'it returns false'. Refute it at one input. -/
def splitOrderWrong : ChangeSpec := { name := "splitOrder", fn := fun _ => fun
  | [d1, d2, d3, d4] => { results := [.lit (.bool false)], args := [d1, d2, d3, d4] }
  | _ => none }
def SplitOrderWrongFalsely : Prop := splitOrderRow.holds Try.pinned (OpenSpec.ofChange splitOrderWrong)

/-- 'heliastlaw12.GraphAsks': WHATEVER THE INPUT: true; the input reads as it did. -/
def graphAsksSpec : ChangeSpec := { name := "graphAsks", fn := fun _ => fun
  | [d1, d2, d3, d4, d5, d6, d7] => { results := [.lit (.bool true)], args := [d1, d2, d3, d4, d5, d6, d7] }
  | _ => none }
def graphAsksRow : OpenClaim := { program := "ytmmalieacakcbaa", sum := "a2e44fe129e951ea13d3f147565331047bbc1976a34360492d0e55113eb57892", func := "heliast/heliastlaw12.GraphAsks", spec := "graphAsks", unfollowed := true, recurses := true, plainKeys := false, apart := false }
def GraphAsksSaid : Prop := graphAsksRow.holds Try.pinned (OpenSpec.ofChange graphAsksSpec)

/-- ITS FALSE NEIGHBOUR: 'it returns false'. Refute it at one input. -/
def graphAsksWrong : ChangeSpec := { name := "graphAsks", fn := fun _ => fun
  | [d1, d2, d3, d4, d5, d6, d7] => { results := [.lit (.bool false)], args := [d1, d2, d3, d4, d5, d6, d7] }
  | _ => none }
def GraphAsksWrongFalsely : Prop := graphAsksRow.holds Try.pinned (OpenSpec.ofChange graphAsksWrong)

/- THE SECOND FORM. 'bulk': how many values and letters a reading holds, each counted each time it is reached (what is shared counts as often as it is met; a slice's spare places count too). A statement '..UptoSaid' is the law's where the arguments, and the package variables that the reading takes, are together of bulk at most 1048576: NARROWER than '..Said'. Prove '..Said' where nothing that the law and all that it calls make is longer than what came in: it says more and counts as full. Else prove '..UptoSaid'. A law counts once. -/
mutual
def uptoBulk {H : Type} : DataW H → Nat
  | .lit (.string bytes) => bytes.length + 1
  | .lit _ => 1
  | .nil => 1
  | .ptr d => uptoBulk d + 1
  | .slice elems spare => uptoBulkAll elems + uptoBulkAll spare + 1
  | .agg parts => uptoBulkAll parts + 1
  | .iface _ d => uptoBulk d + 1
  | .map entries => uptoBulkEntries entries + 1
  | .held _ => 1
def uptoBulkAll {H : Type} : List (DataW H) → Nat
  | [] => 0
  | d :: r => uptoBulk d + uptoBulkAll r
def uptoBulkEntries {H : Type} : List (Lit × DataW H) → Nat
  | [] => 0
  | x :: r => uptoBulkEntry x + uptoBulkEntries r
def uptoBulkEntry {H : Type} : Lit × DataW H → Nat
  | (.string bytes, d) => bytes.length + uptoBulk d + 1
  | (_, d) => uptoBulk d + 1
 end
def uptoSmall : (H : Type) → List (DataW H) → Bool := fun _ ds => decide (uptoBulkAll ds ≤ 1048576)
def OpenSpec.upto (s : _root_.Go.ChangeSpec) : _root_.Go.OpenSpec := { _root_.Go.OpenSpec.ofChange s with cond := some uptoSmall }

/-- 'heliastlaw20.ParkDoes', WHERE WHAT IT READS IS OF BULK AT MOST 1048576: true; the input reads as it did. -/
def parkDoesUptoRow : OpenClaim := { program := "ytmmalieacakcbaa", sum := "a2e44fe129e951ea13d3f147565331047bbc1976a34360492d0e55113eb57892", func := "heliast/heliastlaw20.ParkDoes", spec := "parkDoes", unfollowed := true, recurses := true, plainKeys := false, apart := false, narrowed := true }
def ParkDoesUptoSaid : Prop := parkDoesUptoRow.holds Try.pinned (OpenSpec.upto parkDoesSpec)

/-- 'heliastlaw20.ParkBusy', WHERE WHAT IT READS IS OF BULK AT MOST 1048576: true; the input reads as it did. -/
def parkBusyUptoRow : OpenClaim := { program := "ytmmalieacakcbaa", sum := "a2e44fe129e951ea13d3f147565331047bbc1976a34360492d0e55113eb57892", func := "heliast/heliastlaw20.ParkBusy", spec := "parkBusy", unfollowed := true, recurses := true, plainKeys := false, apart := false, narrowed := true }
def ParkBusyUptoSaid : Prop := parkBusyUptoRow.holds Try.pinned (OpenSpec.upto parkBusySpec)

/-- 'heliastlaw20.ParkLost', WHERE WHAT IT READS IS OF BULK AT MOST 1048576: true; the input reads as it did. -/
def parkLostUptoRow : OpenClaim := { program := "ytmmalieacakcbaa", sum := "a2e44fe129e951ea13d3f147565331047bbc1976a34360492d0e55113eb57892", func := "heliast/heliastlaw20.ParkLost", spec := "parkLost", unfollowed := true, recurses := true, plainKeys := false, apart := false, narrowed := true }
def ParkLostUptoSaid : Prop := parkLostUptoRow.holds Try.pinned (OpenSpec.upto parkLostSpec)

/-- 'heliastlaw20.ParkNone', WHERE WHAT IT READS IS OF BULK AT MOST 1048576: true; the input reads as it did. -/
def parkNoneUptoRow : OpenClaim := { program := "ytmmalieacakcbaa", sum := "a2e44fe129e951ea13d3f147565331047bbc1976a34360492d0e55113eb57892", func := "heliast/heliastlaw20.ParkNone", spec := "parkNone", unfollowed := true, recurses := true, plainKeys := false, apart := false, narrowed := true }
def ParkNoneUptoSaid : Prop := parkNoneUptoRow.holds Try.pinned (OpenSpec.upto parkNoneSpec)

/-- 'heliastlaw16.SplitAll', WHERE WHAT IT READS IS OF BULK AT MOST 1048576: true; the input reads as it did. -/
def splitAllUptoRow : OpenClaim := { program := "ytmmalieacakcbaa", sum := "a2e44fe129e951ea13d3f147565331047bbc1976a34360492d0e55113eb57892", func := "heliast/heliastlaw16.SplitAll", spec := "splitAll", unfollowed := true, recurses := true, plainKeys := false, apart := false, narrowed := true }
def SplitAllUptoSaid : Prop := splitAllUptoRow.holds Try.pinned (OpenSpec.upto splitAllSpec)

/-- 'heliastlaw16.SplitChains', WHERE WHAT IT READS IS OF BULK AT MOST 1048576: true; the input reads as it did. -/
def splitChainsUptoRow : OpenClaim := { program := "ytmmalieacakcbaa", sum := "a2e44fe129e951ea13d3f147565331047bbc1976a34360492d0e55113eb57892", func := "heliast/heliastlaw16.SplitChains", spec := "splitChains", unfollowed := true, recurses := true, plainKeys := false, apart := false, narrowed := true }
def SplitChainsUptoSaid : Prop := splitChainsUptoRow.holds Try.pinned (OpenSpec.upto splitChainsSpec)

/-- 'heliastlaw16.SplitAsks', WHERE WHAT IT READS IS OF BULK AT MOST 1048576: true; the input reads as it did. -/
def splitAsksUptoRow : OpenClaim := { program := "ytmmalieacakcbaa", sum := "a2e44fe129e951ea13d3f147565331047bbc1976a34360492d0e55113eb57892", func := "heliast/heliastlaw16.SplitAsks", spec := "splitAsks", unfollowed := true, recurses := true, plainKeys := false, apart := false, narrowed := true }
def SplitAsksUptoSaid : Prop := splitAsksUptoRow.holds Try.pinned (OpenSpec.upto splitAsksSpec)

/-- 'heliastlaw16.SplitBoth', WHERE WHAT IT READS IS OF BULK AT MOST 1048576: true; the input reads as it did. -/
def splitBothUptoRow : OpenClaim := { program := "ytmmalieacakcbaa", sum := "a2e44fe129e951ea13d3f147565331047bbc1976a34360492d0e55113eb57892", func := "heliast/heliastlaw16.SplitBoth", spec := "splitBoth", unfollowed := true, recurses := true, plainKeys := false, apart := false, narrowed := true }
def SplitBothUptoSaid : Prop := splitBothUptoRow.holds Try.pinned (OpenSpec.upto splitBothSpec)

/-- 'heliastlaw12.GraphHeads', WHERE WHAT IT READS IS OF BULK AT MOST 1048576: true; the input reads as it did. -/
def graphHeadsUptoRow : OpenClaim := { program := "ytmmalieacakcbaa", sum := "a2e44fe129e951ea13d3f147565331047bbc1976a34360492d0e55113eb57892", func := "heliast/heliastlaw12.GraphHeads", spec := "graphHeads", unfollowed := true, recurses := true, plainKeys := false, apart := false, narrowed := true }
def GraphHeadsUptoSaid : Prop := graphHeadsUptoRow.holds Try.pinned (OpenSpec.upto graphHeadsSpec)

/-- 'heliastlaw16.SplitOne', WHERE WHAT IT READS IS OF BULK AT MOST 1048576: true; the input reads as it did. -/
def splitOneUptoRow : OpenClaim := { program := "ytmmalieacakcbaa", sum := "a2e44fe129e951ea13d3f147565331047bbc1976a34360492d0e55113eb57892", func := "heliast/heliastlaw16.SplitOne", spec := "splitOne", unfollowed := true, recurses := true, plainKeys := false, apart := false, narrowed := true }
def SplitOneUptoSaid : Prop := splitOneUptoRow.holds Try.pinned (OpenSpec.upto splitOneSpec)

/-- 'heliastlaw16.SplitOrder', WHERE WHAT IT READS IS OF BULK AT MOST 1048576: true; the input reads as it did. -/
def splitOrderUptoRow : OpenClaim := { program := "ytmmalieacakcbaa", sum := "a2e44fe129e951ea13d3f147565331047bbc1976a34360492d0e55113eb57892", func := "heliast/heliastlaw16.SplitOrder", spec := "splitOrder", unfollowed := true, recurses := true, plainKeys := false, apart := false, narrowed := true }
def SplitOrderUptoSaid : Prop := splitOrderUptoRow.holds Try.pinned (OpenSpec.upto splitOrderSpec)

/-- 'heliastlaw12.GraphAsks', WHERE WHAT IT READS IS OF BULK AT MOST 1048576: true; the input reads as it did. -/
def graphAsksUptoRow : OpenClaim := { program := "ytmmalieacakcbaa", sum := "a2e44fe129e951ea13d3f147565331047bbc1976a34360492d0e55113eb57892", func := "heliast/heliastlaw12.GraphAsks", spec := "graphAsks", unfollowed := true, recurses := true, plainKeys := false, apart := false, narrowed := true }
def GraphAsksUptoSaid : Prop := graphAsksUptoRow.holds Try.pinned (OpenSpec.upto graphAsksSpec)

end Rows
end Go.Proofs.Ytmmalieacakcbaa
