/- The closed facts of the whole program that every row of this seat asks for, each by itself. Conditions: none. -/
import Derived.Test.YtmmalieacakcbaaProg
import Derived.Test.YtmmalieacakcbaaChecked
import Derived.WalkKit
import Derived.ProofKit
import Derived.OpenShut
namespace Go.Proofs.Ytmmalieacakcbaa.Facts
theorem and_mk {a b : Bool} (ha : a = true) (hb : b = true) : (a && b) = true := by rw [ha, hb]; rfl
theorem words_one (b : List Char) : ∀ a : List Char, (∀ c ∈ a, c ≠ Char.ofNat 32) → wordsSigns (a ++ Char.ofNat 32 :: b) = a :: wordsSigns b
  | [], _ => rfl
  | c :: a, h => by
    rw [List.cons_append, wordsSigns]
    · rw [words_one b a (fun x hx => h x (List.mem_cons_of_mem _ hx))]
    · exact h c (List.mem_cons_self ..)
def w0 : List Char := [104, 97, 114, 110, 101, 115, 115].map Char.ofNat
def w1 : List Char := [101, 99, 54, 101, 52, 98, 98, 54, 50, 99, 49, 51, 55, 50, 57, 99, 56, 56, 50, 51, 49, 50, 100, 55, 53, 52, 97, 55, 100, 50, 99, 98, 102, 101, 52, 99, 100, 57, 101, 99, 53, 57, 56, 51, 98, 53, 48, 101, 98, 99, 102, 98, 102, 53, 54, 48, 48, 102, 100, 53, 98, 97, 52, 49].map Char.ofNat
def w2 : List Char := [99, 117, 116].map Char.ofNat
set_option maxRecDepth 100000 in
def w3 : List Char := [97, 116, 32, 104, 101, 108, 105, 97, 115, 116, 47, 104, 101, 108, 105, 97, 115, 116, 108, 97, 119, 50, 48, 46, 80, 97, 114, 107, 68, 111, 101, 115, 32, 104, 101, 108, 105, 97, 115, 116, 47, 104, 101, 108, 105, 97, 115, 116, 108, 97, 119, 50, 48, 46, 80, 97, 114, 107, 66, 117, 115, 121, 32, 104, 101, 108, 105, 97, 115, 116, 47, 104, 101, 108, 105, 97, 115, 116, 108, 97, 119, 50, 48, 46, 80, 97, 114, 107, 76, 111, 115, 116, 32, 104, 101, 108, 105, 97, 115, 116, 47, 104, 101, 108, 105, 97, 115, 116, 108, 97, 119, 50, 48, 46, 80, 97, 114, 107, 78, 111, 110, 101, 32, 104, 101, 108, 105, 97, 115, 116, 47, 104, 101, 108, 105, 97, 115, 116, 108, 97, 119, 49, 54, 46, 83, 112, 108, 105, 116, 65, 108, 108, 32, 104, 101, 108, 105, 97, 115, 116, 47, 104, 101, 108, 105, 97, 115, 116, 108, 97, 119, 49, 54, 46, 83, 112, 108, 105, 116, 67, 104, 97, 105, 110, 115, 32, 104, 101, 108, 105, 97, 115, 116, 47, 104, 101, 108, 105, 97, 115, 116, 108, 97, 119, 49, 54, 46, 83, 112, 108, 105, 116, 65, 115, 107, 115, 32, 104, 101, 108, 105, 97, 115, 116, 47, 104, 101, 108, 105, 97, 115, 116, 108, 97, 119, 49, 54, 46, 83, 112, 108, 105, 116, 66, 111, 116, 104, 32, 104, 101, 108, 105, 97, 115, 116, 47, 104, 101, 108, 105, 97, 115, 116, 108, 97, 119, 49, 50, 46, 71, 114, 97, 112, 104, 72, 101, 97, 100, 115, 32, 104, 101, 108, 105, 97, 115, 116, 47, 104, 101, 108, 105, 97, 115, 116, 108, 97, 119, 49, 54, 46, 83, 112, 108, 105, 116, 79, 110, 101, 32, 104, 101, 108, 105, 97, 115, 116, 47, 104, 101, 108, 105, 97, 115, 116, 108, 97, 119, 49, 54, 46, 83, 112, 108, 105, 116, 79, 114, 100, 101, 114, 32, 104, 101, 108, 105, 97, 115, 116, 47, 104, 101, 108, 105, 97, 115, 116, 108, 97, 119, 49, 50, 46, 71, 114, 97, 112, 104, 65, 115, 107, 115].map Char.ofNat
theorem n0 : ∀ c ∈ w0, c ≠ Char.ofNat 32 := by decide +kernel
theorem n1 : ∀ c ∈ w1, c ≠ Char.ofNat 32 := by decide +kernel
theorem n2 : ∀ c ∈ w2, c ≠ Char.ofNat 32 := by decide +kernel
theorem init_is : Try.prog.initOrder = String.ofList (w0 ++ Char.ofNat 32 :: (w1 ++ Char.ofNat 32 :: (w2 ++ Char.ofNat 32 :: w3))) := by kernel_rfl
theorem init_signs : ∃ X, behindMainWord (wordsSigns Try.prog.initOrder.toList) = w2 :: X := by
  refine ⟨wordsSigns w3, ?_⟩
  rw [init_is, String.toList_ofList, words_one _ w0 n0, words_one _ w1 n1, words_one _ w2 n2]
  generalize wordsSigns w3 = X
  kernel_rfl
theorem lifts0 (X : List (List Char)) : stripLifts liftWords (w2 :: X) = ([], w2 :: X) := by kernel_rfl
theorem isCut : (w2 == "cut".toList) = true := by kernel_rfl
theorem noGc : (w2 == "gc".toList || w2 == "spec".toList) = false := by kernel_rfl
theorem noFin : (w2 == "finals".toList) = false := by kernel_rfl
theorem noCar : (w2 == "carried".toList) = false := by kernel_rfl
theorem make_of (P : Program) (X : List (List Char)) (h : behindMainWord (wordsSigns P.initOrder.toList) = w2 :: X) : P.make = some .cut := by
  unfold Program.make
  rw [h]
  simp only [noGc, isCut, noFin, Bool.false_eq_true, if_false, Bool.true_or, if_true]
theorem enter_of (P : Program) (X : List (List Char)) (h : behindMainWord (wordsSigns P.initOrder.toList) = w2 :: X) (h1 : P.laysLater = false) (h2 : P.bearsReflect = false) (h3 : P.doorFits [] = true) : P.mayEnter = true := by
  unfold Program.mayEnter
  rw [h]
  simp only [lifts0, noGc, noCar, Bool.false_and, Bool.false_or, List.head?_cons, h1, h2, h3]
  rfl
theorem finals_of (P : Program) (X : List (List Char)) (h : behindMainWord (wordsSigns P.initOrder.toList) = w2 :: X) : P.liftsFinal = false := by
  unfold Program.liftsFinal Program.headLifts
  rw [h]
  simp only [lifts0]
  rfl
theorem k1 : Try.prog.laysLater = false := by kernel_rfl
theorem k2 : Try.prog.bearsReflect = false := by kernel_rfl
theorem k3 : Try.prog.doorFits [] = true := by kernel_rfl
theorem made : Try.prog.make = some .cut := init_signs.elim fun X h => make_of _ X h
theorem enters : Try.prog.mayEnter = true := init_signs.elim fun X h => enter_of _ X h k1 k2 k3
theorem finals : Try.prog.liftsFinal = false := init_signs.elim fun X h => finals_of _ X h
theorem laidOut : laidOutB Try.prog = true := by kernel_rfl
theorem rowed : mapsRowed Try.prog = true := by kernel_rfl
theorem heard : Try.prog.stopsHeard = true := by kernel_rfl
theorem plain : Try.prog.plainKeys = false := by kernel_rfl
end Go.Proofs.Ytmmalieacakcbaa.Facts
