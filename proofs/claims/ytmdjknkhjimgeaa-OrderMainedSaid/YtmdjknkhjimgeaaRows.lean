/-
  No cell of these rows narrows 'for every input' (looked for: loops, veiled, ifaces, maps, wideKeys, modest, calm, conditions, laid).
  DERIVED. THE GIVEN ROWS OF THIS SEAT. 6 by the template 'for every input the law returns true; each argument reads behind the call as it read before'; 0 by the template 'total and deterministic' (their statements: YtmdjknkhjimgeaaTotals.lean).
  GIVEN WITH THE SEED: the statements are not yours to turn. If you find one false, say at which input.
  Laid BY PROGRAM, IN A SANDBOX (cutbox-rows.mjs): the forced cells as the released guide's own fill.sh prints them over the translation 5e5e075d2ea6cf59… (all of the seat's roots in one cut). By AI agents, Wed Nov 11 2026. No macro, syntax, notation, axiom, sorry.
-/
import Derived.Test.YtmdjknkhjimgeaaChecked
import GoSem.Claim
import GoSem.ClaimJoined
import GoSem.ClaimMapViews
import Derived.JoinedTies
import Derived.KernelRfl
namespace Go.Proofs.Ytmdjknkhjimgeaa
/- THE CELL 'sum', in the pinned program and in every row, IS THE sha256 OF THE DUMP (.gsa) THAT YtmdjknkhjimgeaaProg.lean LOADS. Nothing in Lean hashes anything: it is a label: what it is worth is what the hold of that sum in a sandbox is worth. -/
noncomputable def Try.pinned : Pinned := { name := "ytmdjknkhjimgeaa", sum := "5e5e075d2ea6cf59ed473406b6a2415e1eafa2a3fe7aff108a1e7155e8dc729a", checked := Try.checked }
namespace Rows
def none {H : Type} : Left H := { results := [], args := [] }

/-- 'heliastlaw20.ParkOut': WHATEVER THE INPUT: true; the input reads as it did. -/
def parkOutSpec : ChangeSpec := { name := "parkOut", fn := fun _ => fun
  | [d1, d2] => { results := [.lit (.bool true)], args := [d1, d2] }
  | _ => none }
def parkOutRow : OpenClaim := { program := "ytmdjknkhjimgeaa", sum := "5e5e075d2ea6cf59ed473406b6a2415e1eafa2a3fe7aff108a1e7155e8dc729a", func := "heliast/heliastlaw20.ParkOut", spec := "parkOut", unfollowed := true, recurses := true, apart := false }
def ParkOutSaid : Prop := parkOutRow.holds Try.pinned (OpenSpec.ofChange parkOutSpec)

/-- ITS FALSE NEIGHBOUR: 'it returns false'. Refute it at one input. -/
def parkOutWrong : ChangeSpec := { name := "parkOut", fn := fun _ => fun
  | [d1, d2] => { results := [.lit (.bool false)], args := [d1, d2] }
  | _ => none }
def ParkOutWrongFalsely : Prop := parkOutRow.holds Try.pinned (OpenSpec.ofChange parkOutWrong)

/-- 'heliastlaw17.OrderMainline': WHATEVER THE INPUT: true; the input reads as it did. -/
def orderMainlineSpec : ChangeSpec := { name := "orderMainline", fn := fun _ => fun
  | [d1, d2] => { results := [.lit (.bool true)], args := [d1, d2] }
  | _ => none }
def orderMainlineRow : OpenClaim := { program := "ytmdjknkhjimgeaa", sum := "5e5e075d2ea6cf59ed473406b6a2415e1eafa2a3fe7aff108a1e7155e8dc729a", func := "heliast/heliastlaw17.OrderMainline", spec := "orderMainline", unfollowed := true, recurses := true, apart := false }
def OrderMainlineSaid : Prop := orderMainlineRow.holds Try.pinned (OpenSpec.ofChange orderMainlineSpec)

/-- ITS FALSE NEIGHBOUR: 'it returns false'. Refute it at one input. -/
def orderMainlineWrong : ChangeSpec := { name := "orderMainline", fn := fun _ => fun
  | [d1, d2] => { results := [.lit (.bool false)], args := [d1, d2] }
  | _ => none }
def OrderMainlineWrongFalsely : Prop := orderMainlineRow.holds Try.pinned (OpenSpec.ofChange orderMainlineWrong)

/-- 'heliastlaw17.OrderLevel': WHATEVER THE INPUT: true; the input reads as it did. -/
def orderLevelSpec : ChangeSpec := { name := "orderLevel", fn := fun _ => fun
  | [d1, d2] => { results := [.lit (.bool true)], args := [d1, d2] }
  | _ => none }
def orderLevelRow : OpenClaim := { program := "ytmdjknkhjimgeaa", sum := "5e5e075d2ea6cf59ed473406b6a2415e1eafa2a3fe7aff108a1e7155e8dc729a", func := "heliast/heliastlaw17.OrderLevel", spec := "orderLevel", unfollowed := true, recurses := true, apart := false }
def OrderLevelSaid : Prop := orderLevelRow.holds Try.pinned (OpenSpec.ofChange orderLevelSpec)

/-- ITS FALSE NEIGHBOUR: 'it returns false'. Refute it at one input. -/
def orderLevelWrong : ChangeSpec := { name := "orderLevel", fn := fun _ => fun
  | [d1, d2] => { results := [.lit (.bool false)], args := [d1, d2] }
  | _ => none }
def OrderLevelWrongFalsely : Prop := orderLevelRow.holds Try.pinned (OpenSpec.ofChange orderLevelWrong)

/-- 'heliastlaw20.ParkDoes': WHATEVER THE INPUT: true; the input reads as it did. -/
def parkDoesSpec : ChangeSpec := { name := "parkDoes", fn := fun _ => fun
  | [d] => { results := [.lit (.bool true)], args := [d] }
  | _ => none }
def parkDoesRow : OpenClaim := { program := "ytmdjknkhjimgeaa", sum := "5e5e075d2ea6cf59ed473406b6a2415e1eafa2a3fe7aff108a1e7155e8dc729a", func := "heliast/heliastlaw20.ParkDoes", spec := "parkDoes", unfollowed := true, recurses := true, apart := false }
def ParkDoesSaid : Prop := parkDoesRow.holds Try.pinned (OpenSpec.ofChange parkDoesSpec)

/-- ITS FALSE NEIGHBOUR: 'it returns false'. Refute it at one input. -/
def parkDoesWrong : ChangeSpec := { name := "parkDoes", fn := fun _ => fun
  | [d] => { results := [.lit (.bool false)], args := [d] }
  | _ => none }
def ParkDoesWrongFalsely : Prop := parkDoesRow.holds Try.pinned (OpenSpec.ofChange parkDoesWrong)

/-- 'heliastlaw17.OrderPowers': WHATEVER THE INPUT: true; the input reads as it did. -/
def orderPowersSpec : ChangeSpec := { name := "orderPowers", fn := fun _ => fun
  | [d1, d2] => { results := [.lit (.bool true)], args := [d1, d2] }
  | _ => none }
def orderPowersRow : OpenClaim := { program := "ytmdjknkhjimgeaa", sum := "5e5e075d2ea6cf59ed473406b6a2415e1eafa2a3fe7aff108a1e7155e8dc729a", func := "heliast/heliastlaw17.OrderPowers", spec := "orderPowers", unfollowed := true, recurses := true, apart := false }
def OrderPowersSaid : Prop := orderPowersRow.holds Try.pinned (OpenSpec.ofChange orderPowersSpec)

/-- ITS FALSE NEIGHBOUR: 'it returns false'. Refute it at one input. -/
def orderPowersWrong : ChangeSpec := { name := "orderPowers", fn := fun _ => fun
  | [d1, d2] => { results := [.lit (.bool false)], args := [d1, d2] }
  | _ => none }
def OrderPowersWrongFalsely : Prop := orderPowersRow.holds Try.pinned (OpenSpec.ofChange orderPowersWrong)

/-- 'heliastlaw17.OrderMained': WHATEVER THE INPUT: true; the input reads as it did. -/
def orderMainedSpec : ChangeSpec := { name := "orderMained", fn := fun _ => fun
  | [d1, d2, d3] => { results := [.lit (.bool true)], args := [d1, d2, d3] }
  | _ => none }
def orderMainedRow : OpenClaim := { program := "ytmdjknkhjimgeaa", sum := "5e5e075d2ea6cf59ed473406b6a2415e1eafa2a3fe7aff108a1e7155e8dc729a", func := "heliast/heliastlaw17.OrderMained", spec := "orderMained", unfollowed := true, recurses := true, apart := false }
def OrderMainedSaid : Prop := orderMainedRow.holds Try.pinned (OpenSpec.ofChange orderMainedSpec)

/-- ITS FALSE NEIGHBOUR: 'it returns false'. Refute it at one input. -/
def orderMainedWrong : ChangeSpec := { name := "orderMained", fn := fun _ => fun
  | [d1, d2, d3] => { results := [.lit (.bool false)], args := [d1, d2, d3] }
  | _ => none }
def OrderMainedWrongFalsely : Prop := orderMainedRow.holds Try.pinned (OpenSpec.ofChange orderMainedWrong)

/- THE SECOND FORM. 'bulk': how many values and letters a reading holds, each counted each time it is reached (what is shared counts as often as it is met; a slice's spare places count too). A statement '..UptoSaid' is the law's where the arguments, and the package variables that the reading takes, are together of bulk at most 1048576: NARROWER than '..Said'. Prove '..Said' where nothing that the law and all that it calls make is longer than what came in: it says more and counts as full. Else prove '..UptoSaid'. A law counts once. -/
mutual
def uptoBulk {H : Type} : DataW H → Nat
  | .lit (.string bytes) => bytes.length + 1
  | .lit _ => 1
  | .nil => 1
  | .ptr d => uptoBulk d + 1
  | .slice elems spare => uptoBulkAll elems + uptoBulkAll spare + 1
  | .agg parts => uptoBulkAll parts + 1
  | .iface _ d => uptoBulk d + 1
  | .map entries => uptoBulkEntries entries + 1
  | .held _ => 1
def uptoBulkAll {H : Type} : List (DataW H) → Nat
  | [] => 0
  | d :: r => uptoBulk d + uptoBulkAll r
def uptoBulkEntries {H : Type} : List (Lit × DataW H) → Nat
  | [] => 0
  | x :: r => uptoBulkEntry x + uptoBulkEntries r
def uptoBulkEntry {H : Type} : Lit × DataW H → Nat
  | (.string bytes, d) => bytes.length + uptoBulk d + 1
  | (_, d) => uptoBulk d + 1
 end
def uptoSmall : (H : Type) → List (DataW H) → Bool := fun _ ds => decide (uptoBulkAll ds ≤ 1048576)
def OpenSpec.upto (s : _root_.Go.ChangeSpec) : _root_.Go.OpenSpec := { _root_.Go.OpenSpec.ofChange s with cond := some uptoSmall }

/-- 'heliastlaw20.ParkOut', WHERE WHAT IT READS IS OF BULK AT MOST 1048576: true; the input reads as it did. -/
def parkOutUptoRow : OpenClaim := { program := "ytmdjknkhjimgeaa", sum := "5e5e075d2ea6cf59ed473406b6a2415e1eafa2a3fe7aff108a1e7155e8dc729a", func := "heliast/heliastlaw20.ParkOut", spec := "parkOut", unfollowed := true, recurses := true, apart := false, narrowed := true }
def ParkOutUptoSaid : Prop := parkOutUptoRow.holds Try.pinned (OpenSpec.upto parkOutSpec)

/-- 'heliastlaw17.OrderMainline', WHERE WHAT IT READS IS OF BULK AT MOST 1048576: true; the input reads as it did. -/
def orderMainlineUptoRow : OpenClaim := { program := "ytmdjknkhjimgeaa", sum := "5e5e075d2ea6cf59ed473406b6a2415e1eafa2a3fe7aff108a1e7155e8dc729a", func := "heliast/heliastlaw17.OrderMainline", spec := "orderMainline", unfollowed := true, recurses := true, apart := false, narrowed := true }
def OrderMainlineUptoSaid : Prop := orderMainlineUptoRow.holds Try.pinned (OpenSpec.upto orderMainlineSpec)

/-- 'heliastlaw17.OrderLevel', WHERE WHAT IT READS IS OF BULK AT MOST 1048576: true; the input reads as it did. -/
def orderLevelUptoRow : OpenClaim := { program := "ytmdjknkhjimgeaa", sum := "5e5e075d2ea6cf59ed473406b6a2415e1eafa2a3fe7aff108a1e7155e8dc729a", func := "heliast/heliastlaw17.OrderLevel", spec := "orderLevel", unfollowed := true, recurses := true, apart := false, narrowed := true }
def OrderLevelUptoSaid : Prop := orderLevelUptoRow.holds Try.pinned (OpenSpec.upto orderLevelSpec)

/-- 'heliastlaw20.ParkDoes', WHERE WHAT IT READS IS OF BULK AT MOST 1048576: true; the input reads as it did. -/
def parkDoesUptoRow : OpenClaim := { program := "ytmdjknkhjimgeaa", sum := "5e5e075d2ea6cf59ed473406b6a2415e1eafa2a3fe7aff108a1e7155e8dc729a", func := "heliast/heliastlaw20.ParkDoes", spec := "parkDoes", unfollowed := true, recurses := true, apart := false, narrowed := true }
def ParkDoesUptoSaid : Prop := parkDoesUptoRow.holds Try.pinned (OpenSpec.upto parkDoesSpec)

/-- 'heliastlaw17.OrderPowers', WHERE WHAT IT READS IS OF BULK AT MOST 1048576: true; the input reads as it did. -/
def orderPowersUptoRow : OpenClaim := { program := "ytmdjknkhjimgeaa", sum := "5e5e075d2ea6cf59ed473406b6a2415e1eafa2a3fe7aff108a1e7155e8dc729a", func := "heliast/heliastlaw17.OrderPowers", spec := "orderPowers", unfollowed := true, recurses := true, apart := false, narrowed := true }
def OrderPowersUptoSaid : Prop := orderPowersUptoRow.holds Try.pinned (OpenSpec.upto orderPowersSpec)

/-- 'heliastlaw17.OrderMained', WHERE WHAT IT READS IS OF BULK AT MOST 1048576: true; the input reads as it did. -/
def orderMainedUptoRow : OpenClaim := { program := "ytmdjknkhjimgeaa", sum := "5e5e075d2ea6cf59ed473406b6a2415e1eafa2a3fe7aff108a1e7155e8dc729a", func := "heliast/heliastlaw17.OrderMained", spec := "orderMained", unfollowed := true, recurses := true, apart := false, narrowed := true }
def OrderMainedUptoSaid : Prop := orderMainedUptoRow.holds Try.pinned (OpenSpec.upto orderMainedSpec)

end Rows
end Go.Proofs.Ytmdjknkhjimgeaa
