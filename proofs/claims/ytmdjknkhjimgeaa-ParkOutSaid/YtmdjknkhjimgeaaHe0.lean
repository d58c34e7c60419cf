/- Words of this session's own: laws of the walk that the printed texts lack. -/
import Derived.Lib.Strings
import Derived.WalkKit
import Derived.Shelf.Abstract
import Derived.Laws.Strings
namespace Go.Proofs.He
open Go

theorem bytesLess_eq : ∀ (x y : List UInt8), Op.bytesLess x y = decide (x < y)
  | [], [] => by simp [Op.bytesLess]
  | [], _ :: _ => by simp [Op.bytesLess]
  | _ :: _, [] => by simp [Op.bytesLess]
  | a :: x, b :: y => by
    rw [Op.bytesLess, bytesLess_eq x y]
    by_cases h : a < b <;> by_cases h' : a = b <;> simp [h, h', List.cons_lt_cons_iff]

theorem bytesLess_gtr (a b : List UInt8) : (!(Op.bytesLess a b || a == b)) = Op.bytesLess b a := by
  rw [bytesLess_eq, bytesLess_eq]
  by_cases h1 : a < b
  · have := List.lt_asymm h1; simp [h1, this]
  · by_cases h2 : a = b
    · subst h2; simp
    · have : b < a := by
        rcases List.le_iff_lt_or_eq.1 (List.not_lt.1 h1) with h | h
        · exact h
        · exact absurd h.symm h2
      simp [h1, h2, this]

theorem binOp_string_gtr (t : TypeId) (a b : ByteArray) : binOp .gtr t (.string a) (.string b) = pure (.bool (Op.bytesLess b.toList a.toList)) := by
  rw [← bytesLess_gtr]; simp [binOp, Op.stringOp]
attribute [go_sem] binOp_string_gtr

theorem u8_tmod (a n : Int) : (IntKind.u8.wrap a).tmod n = (a % 256) % n := by
  rw [show IntKind.u8.wrap a = a % 256 from by simp [IntKind.wrap, IntKind.signed, IntKind.bits]]
  exact Int.tmod_eq_emod_of_nonneg (by omega)
attribute [go_sem] u8_tmod
def idxOf {α : Type} (p : α → Bool) (l : List α) : Int := match l.findIdx? p with | some i => i | none => -1
theorem idxOf_hit {α : Type} {p : α → Bool} {l : List α} {k : Nat} (hk : k < l.length) (h0 : ∀ j, j < k → ∀ x, l[j]? = some x → p x = false) (h1 : p l[k] = true) : idxOf p l = k := by
  have : l.findIdx? p = some k := by
    rw [List.findIdx?_eq_some_iff_getElem]
    refine ⟨hk, h1, fun j hj => ?_⟩
    rw [h0 j hj _ (List.getElem?_eq_getElem (by omega))]; simp
  simp [idxOf, this]
theorem idxOf_miss {α : Type} {p : α → Bool} {l : List α} (h0 : ∀ j, j < l.length → ∀ x, l[j]? = some x → p x = false) : idxOf p l = -1 := by
  have : l.findIdx? p = none := by
    rw [List.findIdx?_eq_none_iff]
    intro x hx
    obtain ⟨j, hj, rfl⟩ := List.getElem_of_mem hx
    exact h0 j hj _ (List.getElem?_eq_getElem hj)
  simp [idxOf, this]

theorem ba_ext {a b : ByteArray} (h : a.toList = b.toList) : a = b := by
  have := congrArg List.toArray h
  rw [Lib.toList_data, Lib.toList_data] at h
  cases a; cases b; simp_all
def cmpS (a b : ByteArray) : Int := if a.toList < b.toList then -1 else if b.toList < a.toList then 1 else 0

end Go.Proofs.He
