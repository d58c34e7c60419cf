/- The closed facts of the whole program that every row of this seat asks for, each by itself. Conditions: none. -/
import Derived.Test.YtmdjknkhjimgeaaProg
import Derived.Test.YtmdjknkhjimgeaaChecked
import Derived.WalkKit
import Derived.ProofKit
import Derived.OpenShut
namespace Go.Proofs.Ytmdjknkhjimgeaa.Facts
theorem and_mk {a b : Bool} (ha : a = true) (hb : b = true) : (a && b) = true := by rw [ha, hb]; rfl
theorem words_one (b : List Char) : ∀ a : List Char, (∀ c ∈ a, c ≠ Char.ofNat 32) → wordsSigns (a ++ Char.ofNat 32 :: b) = a :: wordsSigns b
  | [], _ => rfl
  | c :: a, h => by
    rw [List.cons_append, wordsSigns]
    · rw [words_one b a (fun x hx => h x (List.mem_cons_of_mem _ hx))]
    · exact h c (List.mem_cons_self ..)
def w0 : List Char := [104, 97, 114, 110, 101, 115, 115].map Char.ofNat
def w1 : List Char := [48, 101, 52, 100, 98, 98, 100, 51, 48, 54, 54, 50, 101, 55, 57, 97, 57, 54, 100, 54, 55, 101, 100, 54, 98, 57, 52, 101, 54, 97, 52, 56, 49, 102, 54, 101, 48, 55, 56, 51, 97, 48, 52, 97, 101, 49, 57, 57, 56, 52, 50, 57, 98, 98, 51, 101, 55, 55, 50, 100, 52, 48, 57, 52].map Char.ofNat
def w2 : List Char := [99, 117, 116].map Char.ofNat
set_option maxRecDepth 100000 in
def w3 : List Char := [97, 116, 32, 104, 101, 108, 105, 97, 115, 116, 47, 104, 101, 108, 105, 97, 115, 116, 108, 97, 119, 50, 48, 46, 80, 97, 114, 107, 79, 117, 116, 32, 104, 101, 108, 105, 97, 115, 116, 47, 104, 101, 108, 105, 97, 115, 116, 108, 97, 119, 49, 55, 46, 79, 114, 100, 101, 114, 77, 97, 105, 110, 108, 105, 110, 101, 32, 104, 101, 108, 105, 97, 115, 116, 47, 104, 101, 108, 105, 97, 115, 116, 108, 97, 119, 49, 55, 46, 79, 114, 100, 101, 114, 76, 101, 118, 101, 108, 32, 104, 101, 108, 105, 97, 115, 116, 47, 104, 101, 108, 105, 97, 115, 116, 108, 97, 119, 50, 48, 46, 80, 97, 114, 107, 68, 111, 101, 115, 32, 104, 101, 108, 105, 97, 115, 116, 47, 104, 101, 108, 105, 97, 115, 116, 108, 97, 119, 49, 55, 46, 79, 114, 100, 101, 114, 80, 111, 119, 101, 114, 115, 32, 104, 101, 108, 105, 97, 115, 116, 47, 104, 101, 108, 105, 97, 115, 116, 108, 97, 119, 49, 55, 46, 79, 114, 100, 101, 114, 77, 97, 105, 110, 101, 100].map Char.ofNat
theorem n0 : ∀ c ∈ w0, c ≠ Char.ofNat 32 := by decide +kernel
theorem n1 : ∀ c ∈ w1, c ≠ Char.ofNat 32 := by decide +kernel
theorem n2 : ∀ c ∈ w2, c ≠ Char.ofNat 32 := by decide +kernel
theorem init_is : Try.prog.initOrder = String.ofList (w0 ++ Char.ofNat 32 :: (w1 ++ Char.ofNat 32 :: (w2 ++ Char.ofNat 32 :: w3))) := by kernel_rfl
theorem init_signs : ∃ X, behindMainWord (wordsSigns Try.prog.initOrder.toList) = w2 :: X := by
  refine ⟨wordsSigns w3, ?_⟩
  rw [init_is, String.toList_ofList, words_one _ w0 n0, words_one _ w1 n1, words_one _ w2 n2]
  generalize wordsSigns w3 = X
  kernel_rfl
theorem lifts0 (X : List (List Char)) : stripLifts liftWords (w2 :: X) = ([], w2 :: X) := by kernel_rfl
theorem isCut : (w2 == "cut".toList) = true := by kernel_rfl
theorem noGc : (w2 == "gc".toList || w2 == "spec".toList) = false := by kernel_rfl
theorem noFin : (w2 == "finals".toList) = false := by kernel_rfl
theorem noCar : (w2 == "carried".toList) = false := by kernel_rfl
theorem make_of (P : Program) (X : List (List Char)) (h : behindMainWord (wordsSigns P.initOrder.toList) = w2 :: X) : P.make = some .cut := by
  unfold Program.make
  rw [h]
  simp only [noGc, isCut, noFin, Bool.false_eq_true, if_false, Bool.true_or, if_true]
theorem enter_of (P : Program) (X : List (List Char)) (h : behindMainWord (wordsSigns P.initOrder.toList) = w2 :: X) (h1 : P.laysLater = false) (h2 : P.bearsReflect = false) (h3 : P.doorFits [] = true) : P.mayEnter = true := by
  unfold Program.mayEnter
  rw [h]
  simp only [lifts0, noGc, noCar, Bool.false_and, Bool.false_or, List.head?_cons, h1, h2, h3]
  rfl
theorem finals_of (P : Program) (X : List (List Char)) (h : behindMainWord (wordsSigns P.initOrder.toList) = w2 :: X) : P.liftsFinal = false := by
  unfold Program.liftsFinal Program.headLifts
  rw [h]
  simp only [lifts0]
  rfl
theorem k1 : Try.prog.laysLater = false := by kernel_rfl
theorem k2 : Try.prog.bearsReflect = false := by kernel_rfl
theorem k3 : Try.prog.doorFits [] = true := by kernel_rfl
theorem made : Try.prog.make = some .cut := init_signs.elim fun X h => make_of _ X h
theorem enters : Try.prog.mayEnter = true := init_signs.elim fun X h => enter_of _ X h k1 k2 k3
theorem finals : Try.prog.liftsFinal = false := init_signs.elim fun X h => finals_of _ X h
theorem laidOut : laidOutB Try.prog = true := by kernel_rfl
theorem rowed : mapsRowed Try.prog = true := by kernel_rfl
theorem heard : Try.prog.stopsHeard = true := by kernel_rfl
theorem plain : Try.prog.plainKeys = true := by kernel_rfl
end Go.Proofs.Ytmdjknkhjimgeaa.Facts
