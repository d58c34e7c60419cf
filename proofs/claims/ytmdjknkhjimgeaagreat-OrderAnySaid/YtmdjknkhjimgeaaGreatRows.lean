/-
  NARROWER THAN 'FOR EVERY INPUT', by the rows' own cells (each row's printed sentence says how): OrderAsks: loops.
  DERIVED. THE GIVEN ROWS OF THIS SEAT. 4 by the template 'for every input the law returns true; each argument reads behind the call as it read before'; 0 by the template 'total and deterministic' (their statements: YtmdjknkhjimgeaaGreatTotals.lean).
  GIVEN WITH THE SEED: the statements are not yours to turn. If you find one false, say at which input.
  Laid BY PROGRAM, IN A SANDBOX (cutbox-rows.mjs): the forced cells as the released guide's own fill.sh prints them over the translation 93998b595a9f89f6… (all of the seat's roots in one cut). By AI agents, Wed Nov 11 2026. No macro, syntax, notation, axiom, sorry.
-/
import Derived.Test.YtmdjknkhjimgeaaGreatChecked
import GoSem.Claim
import GoSem.ClaimJoined
import GoSem.ClaimMapViews
import Derived.JoinedTies
import Derived.KernelRfl
namespace Go.Proofs.YtmdjknkhjimgeaaGreat
/- THE CELL 'sum', in the pinned program and in every row, IS THE sha256 OF THE DUMP (.gsa) THAT YtmdjknkhjimgeaaGreatProg.lean LOADS. Nothing in Lean hashes anything: it is a label: what it is worth is what the hold of that sum in a sandbox is worth. -/
noncomputable def Tryz.pinned : Pinned := { name := "ytmdjknkhjimgeaagreat", sum := "93998b595a9f89f63c79c953c49c741e6142ed72ecefd2da2dcf903982a51247", checked := Tryz.checked }
namespace Rows
def none {H : Type} : Left H := { results := [], args := [] }

/-- 'heliastlaw17.OrderRanked': WHATEVER THE INPUT: true; the input reads as it did. -/
def orderRankedSpec : ChangeSpec := { name := "orderRanked", fn := fun _ => fun
  | [d1, d2] => { results := [.lit (.bool true)], args := [d1, d2] }
  | _ => none }
def orderRankedRow : OpenClaim := { program := "ytmdjknkhjimgeaagreat", sum := "93998b595a9f89f63c79c953c49c741e6142ed72ecefd2da2dcf903982a51247", func := "heliast/heliastlaw17.OrderRanked", spec := "orderRanked", unfollowed := true, recurses := true, apart := false }
def OrderRankedSaid : Prop := orderRankedRow.holds Tryz.pinned (OpenSpec.ofChange orderRankedSpec)

/-- ITS FALSE NEIGHBOUR: 'it returns false'. Refute it at one input. -/
def orderRankedWrong : ChangeSpec := { name := "orderRanked", fn := fun _ => fun
  | [d1, d2] => { results := [.lit (.bool false)], args := [d1, d2] }
  | _ => none }
def OrderRankedWrongFalsely : Prop := orderRankedRow.holds Tryz.pinned (OpenSpec.ofChange orderRankedWrong)

/-- 'heliastlaw17.OrderPlaces': WHATEVER THE INPUT: true; the input reads as it did. -/
def orderPlacesSpec : ChangeSpec := { name := "orderPlaces", fn := fun _ => fun
  | [d1, d2, d3, d4] => { results := [.lit (.bool true)], args := [d1, d2, d3, d4] }
  | _ => none }
def orderPlacesRow : OpenClaim := { program := "ytmdjknkhjimgeaagreat", sum := "93998b595a9f89f63c79c953c49c741e6142ed72ecefd2da2dcf903982a51247", func := "heliast/heliastlaw17.OrderPlaces", spec := "orderPlaces", unfollowed := true, recurses := true, apart := false }
def OrderPlacesSaid : Prop := orderPlacesRow.holds Tryz.pinned (OpenSpec.ofChange orderPlacesSpec)

/-- ITS FALSE NEIGHBOUR: 'it returns false'. Refute it at one input. -/
def orderPlacesWrong : ChangeSpec := { name := "orderPlaces", fn := fun _ => fun
  | [d1, d2, d3, d4] => { results := [.lit (.bool false)], args := [d1, d2, d3, d4] }
  | _ => none }
def OrderPlacesWrongFalsely : Prop := orderPlacesRow.holds Tryz.pinned (OpenSpec.ofChange orderPlacesWrong)

/-- 'heliastlaw17.OrderAsks': WHATEVER THE INPUT: true; the input reads as it did. -/
def orderAsksSpec : ChangeSpec := { name := "orderAsks", fn := fun _ => fun
  | [d1, d2, d3, d4, d5, d6, d7, d8] => { results := [.lit (.bool true)], args := [d1, d2, d3, d4, d5, d6, d7, d8] }
  | _ => none }
def orderAsksRow : OpenClaim := { program := "ytmdjknkhjimgeaagreat", sum := "93998b595a9f89f63c79c953c49c741e6142ed72ecefd2da2dcf903982a51247", func := "heliast/heliastlaw17.OrderAsks", spec := "orderAsks", unfollowed := true, recurses := true, loops := true, apart := false }
def OrderAsksSaid : Prop := orderAsksRow.holds Tryz.pinned (OpenSpec.ofChange orderAsksSpec)

/-- ITS FALSE NEIGHBOUR: 'it returns false'. Refute it at one input. -/
def orderAsksWrong : ChangeSpec := { name := "orderAsks", fn := fun _ => fun
  | [d1, d2, d3, d4, d5, d6, d7, d8] => { results := [.lit (.bool false)], args := [d1, d2, d3, d4, d5, d6, d7, d8] }
  | _ => none }
def OrderAsksWrongFalsely : Prop := orderAsksRow.holds Tryz.pinned (OpenSpec.ofChange orderAsksWrong)

/-- 'heliastlaw17.OrderAny': WHATEVER THE INPUT: true; the input reads as it did. -/
def orderAnySpec : ChangeSpec := { name := "orderAny", fn := fun _ => fun
  | [d1, d2, d3] => { results := [.lit (.bool true)], args := [d1, d2, d3] }
  | _ => none }
def orderAnyRow : OpenClaim := { program := "ytmdjknkhjimgeaagreat", sum := "93998b595a9f89f63c79c953c49c741e6142ed72ecefd2da2dcf903982a51247", func := "heliast/heliastlaw17.OrderAny", spec := "orderAny", unfollowed := true, recurses := true, apart := false }
def OrderAnySaid : Prop := orderAnyRow.holds Tryz.pinned (OpenSpec.ofChange orderAnySpec)

/-- ITS FALSE NEIGHBOUR: 'it returns false'. Refute it at one input. -/
def orderAnyWrong : ChangeSpec := { name := "orderAny", fn := fun _ => fun
  | [d1, d2, d3] => { results := [.lit (.bool false)], args := [d1, d2, d3] }
  | _ => none }
def OrderAnyWrongFalsely : Prop := orderAnyRow.holds Tryz.pinned (OpenSpec.ofChange orderAnyWrong)

/- THE SECOND FORM. 'bulk': how many values and letters a reading holds, each counted each time it is reached (what is shared counts as often as it is met; a slice's spare places count too). A statement '..UptoSaid' is the law's where the arguments, and the package variables that the reading takes, are together of bulk at most 1048576: NARROWER than '..Said'. Prove '..Said' where nothing that the law and all that it calls make is longer than what came in: it says more and counts as full. Else prove '..UptoSaid'. A law counts once. -/
mutual
def uptoBulk {H : Type} : DataW H → Nat
  | .lit (.string bytes) => bytes.length + 1
  | .lit _ => 1
  | .nil => 1
  | .ptr d => uptoBulk d + 1
  | .slice elems spare => uptoBulkAll elems + uptoBulkAll spare + 1
  | .agg parts => uptoBulkAll parts + 1
  | .iface _ d => uptoBulk d + 1
  | .map entries => uptoBulkEntries entries + 1
  | .held _ => 1
def uptoBulkAll {H : Type} : List (DataW H) → Nat
  | [] => 0
  | d :: r => uptoBulk d + uptoBulkAll r
def uptoBulkEntries {H : Type} : List (Lit × DataW H) → Nat
  | [] => 0
  | x :: r => uptoBulkEntry x + uptoBulkEntries r
def uptoBulkEntry {H : Type} : Lit × DataW H → Nat
  | (.string bytes, d) => bytes.length + uptoBulk d + 1
  | (_, d) => uptoBulk d + 1
 end
def uptoSmall : (H : Type) → List (DataW H) → Bool := fun _ ds => decide (uptoBulkAll ds ≤ 1048576)
def OpenSpec.upto (s : _root_.Go.ChangeSpec) : _root_.Go.OpenSpec := { _root_.Go.OpenSpec.ofChange s with cond := some uptoSmall }

/-- 'heliastlaw17.OrderRanked', WHERE WHAT IT READS IS OF BULK AT MOST 1048576: true; the input reads as it did. -/
def orderRankedUptoRow : OpenClaim := { program := "ytmdjknkhjimgeaagreat", sum := "93998b595a9f89f63c79c953c49c741e6142ed72ecefd2da2dcf903982a51247", func := "heliast/heliastlaw17.OrderRanked", spec := "orderRanked", unfollowed := true, recurses := true, apart := false, narrowed := true }
def OrderRankedUptoSaid : Prop := orderRankedUptoRow.holds Tryz.pinned (OpenSpec.upto orderRankedSpec)

/-- 'heliastlaw17.OrderPlaces', WHERE WHAT IT READS IS OF BULK AT MOST 1048576: true; the input reads as it did. -/
def orderPlacesUptoRow : OpenClaim := { program := "ytmdjknkhjimgeaagreat", sum := "93998b595a9f89f63c79c953c49c741e6142ed72ecefd2da2dcf903982a51247", func := "heliast/heliastlaw17.OrderPlaces", spec := "orderPlaces", unfollowed := true, recurses := true, apart := false, narrowed := true }
def OrderPlacesUptoSaid : Prop := orderPlacesUptoRow.holds Tryz.pinned (OpenSpec.upto orderPlacesSpec)

/-- 'heliastlaw17.OrderAsks', WHERE WHAT IT READS IS OF BULK AT MOST 1048576: true; the input reads as it did. -/
def orderAsksUptoRow : OpenClaim := { program := "ytmdjknkhjimgeaagreat", sum := "93998b595a9f89f63c79c953c49c741e6142ed72ecefd2da2dcf903982a51247", func := "heliast/heliastlaw17.OrderAsks", spec := "orderAsks", unfollowed := true, recurses := true, loops := true, apart := false, narrowed := true }
def OrderAsksUptoSaid : Prop := orderAsksUptoRow.holds Tryz.pinned (OpenSpec.upto orderAsksSpec)

/-- 'heliastlaw17.OrderAny', WHERE WHAT IT READS IS OF BULK AT MOST 1048576: true; the input reads as it did. -/
def orderAnyUptoRow : OpenClaim := { program := "ytmdjknkhjimgeaagreat", sum := "93998b595a9f89f63c79c953c49c741e6142ed72ecefd2da2dcf903982a51247", func := "heliast/heliastlaw17.OrderAny", spec := "orderAny", unfollowed := true, recurses := true, apart := false, narrowed := true }
def OrderAnyUptoSaid : Prop := orderAnyUptoRow.holds Tryz.pinned (OpenSpec.upto orderAnySpec)

end Rows
end Go.Proofs.YtmdjknkhjimgeaaGreat
