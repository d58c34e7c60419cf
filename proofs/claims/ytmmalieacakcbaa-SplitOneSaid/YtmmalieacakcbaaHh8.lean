-- Written by heprint.py (this session's, over the kit's print.py): not trusted, Lean checks it.
import Derived.Test.YtmmalieacakcbaaHh0
import Derived.Test.YtmmalieacakcbaaHh2
import Derived.Test.YtmmalieacakcbaaHh3
import Derived.Test.YtmmalieacakcbaaHh4
import Derived.Test.YtmmalieacakcbaaHh5
import Derived.Test.YtmmalieacakcbaaHh6
import Derived.Test.YtmmalieacakcbaaHh7
namespace Go.Proofs.Ytmmalieacakcbaa.S
open Go.RowKit Go.Proofs.YtmmalieacakcbaaW.PrintWords Go.Proofs.YtmmalieacakcbaaW.PrintLast Go.Proofs.YtmmalieacakcbaaW.PrintMore
attribute [local go_sem] max2_int min2_int max_two min_two max_three min_three max_four min_four   -- for this text's walks alone
set_option linter.unusedVariables false
set_option linter.unusedSimpArgs false

/-! ### pure Sp0 -/
-- PURE needs heliast/heliastref13.Put needs heliast/heliastlaw13.State needs heliast/heliastlaw16.known
open Go.Proofs.He
namespace Sp
abbrev En := S69
def cmpE (x y : S69) : Int := if cmpS x.f0 y.f0 = 0 then cmpS x.f1 y.f1 else cmpS x.f0 y.f0
def stIns (x : S69) : List S69 → List S69
  | [] => [x]
  | y :: l => if cmpE y x < 0 then y :: stIns x l else if cmpE y x = 0 then x :: l else x :: y :: l
def kLt (x y : S69) : Prop := x.f0.toList < y.f0.toList ∨ (x.f0.toList = y.f0.toList ∧ x.f1.toList < y.f1.toList)
theorem lt_cases (a b : List UInt8) : a < b ∨ a = b ∨ b < a := by
  by_cases h1 : a < b
  · exact .inl h1
  · rcases List.le_iff_lt_or_eq.1 (List.not_lt.1 h1) with h | h
    · exact .inr (.inr h)
    · exact .inr (.inl h.symm)
theorem cmpS_cases (a b : ByteArray) : (cmpS a b = -1 ∧ a.toList < b.toList) ∨ (cmpS a b = 0 ∧ a = b) ∨ (cmpS a b = 1 ∧ b.toList < a.toList) := by
  unfold cmpS
  rcases lt_cases a.toList b.toList with h | h | h
  · exact .inl ⟨by rw [if_pos h], h⟩
  · exact .inr (.inl ⟨by rw [if_neg (by rw [h]; exact List.lt_irrefl _), if_neg (by rw [h]; exact List.lt_irrefl _)], ba_ext h⟩)
  · exact .inr (.inr ⟨by rw [if_neg (List.lt_asymm h), if_pos h], h⟩)
theorem cmpE_neg {x y : S69} : cmpE x y < 0 ↔ kLt x y := by
  unfold cmpE kLt
  rcases cmpS_cases x.f0 y.f0 with ⟨h, h'⟩ | ⟨h, h'⟩ | ⟨h, h'⟩
  · simp [h, h']
  · rcases cmpS_cases x.f1 y.f1 with ⟨g, g'⟩ | ⟨g, g'⟩ | ⟨g, g'⟩ <;> rw [if_pos h, g]
    · simp [h', g']
    · simp [h', g', List.lt_irrefl]
    · simp [h', List.lt_irrefl, List.lt_asymm g']
  · simp [h, List.lt_asymm h']
    intro e; rw [e] at h'; exact absurd h' (List.lt_irrefl _)
theorem cmpE_zero {x y : S69} : cmpE x y = 0 ↔ x.f0 = y.f0 ∧ x.f1 = y.f1 := by
  unfold cmpE
  rcases cmpS_cases x.f0 y.f0 with ⟨h, h'⟩ | ⟨h, h'⟩ | ⟨h, h'⟩
  · simp [h]; intro e; rw [e] at h'; exact absurd h' (List.lt_irrefl _)
  · rcases cmpS_cases x.f1 y.f1 with ⟨g, g'⟩ | ⟨g, g'⟩ | ⟨g, g'⟩ <;> rw [if_pos h, g]
    · simp; intro _ e; rw [e] at g'; exact absurd g' (List.lt_irrefl _)
    · simp [h', g']
    · simp; intro _ e; rw [e] at g'; exact absurd g' (List.lt_irrefl _)
  · simp [h]; intro e; rw [e] at h'; exact absurd h' (List.lt_irrefl _)
theorem kLt_trans {x y z : S69} (h : kLt x y) (k : kLt y z) : kLt x z := by
  rcases h with h | ⟨h, h'⟩ <;> rcases k with k | ⟨k, k'⟩
  · exact .inl (List.lt_trans h k)
  · exact .inl (by rw [← k]; exact h)
  · exact .inl (by rw [h]; exact k)
  · exact .inr ⟨h.trans k, List.lt_trans h' k'⟩
def spSrt (l : List S69) : Prop := l.Pairwise kLt
def srtB : List S69 → Bool
  | x :: y :: l => decide (cmpE x y < 0) && srtB (y :: l)
  | _ => true
theorem srtB_iff : ∀ {l : List S69}, srtB l = true ↔ spSrt l
  | [] => by simp [srtB, spSrt]
  | [x] => by simp [srtB, spSrt]
  | x :: y :: l => by
    have ih := @srtB_iff (y :: l)
    simp only [srtB, Bool.and_eq_true, decide_eq_true_eq, ih, cmpE_neg, spSrt]
    constructor
    · rintro ⟨h1, h2⟩
      refine List.pairwise_cons.2 ⟨fun z hz => ?_, h2⟩
      rcases List.mem_cons.1 hz with rfl | hz
      · exact h1
      · exact kLt_trans h1 ((List.pairwise_cons.1 h2).1 z hz)
    · intro h
      obtain ⟨h1, h2⟩ := List.pairwise_cons.1 h
      exact ⟨h1 y (List.mem_cons_self ..), h2⟩
def look (l : List En) (a b : ByteArray) : Option En := l.find? (fun y => decide (y.f0 = a ∧ y.f1 = b))
theorem look_nil (a b : ByteArray) : look [] a b = none := rfl
theorem look_cons (y : En) (l : List En) (a b : ByteArray) : look (y :: l) a b = if y.f0 = a ∧ y.f1 = b then some y else look l a b := by
  unfold look
  rw [List.find?_cons]
  by_cases h : y.f0 = a ∧ y.f1 = b
  · simp [h]
  · simp only [h, decide_false, if_false]
theorem kLt_irrefl (x : En) : ¬ kLt x x := by
  rintro (h | ⟨_, h⟩) <;> exact List.lt_irrefl _ h
theorem kLt_key {x y z : En} (h : kLt x y) (h0 : y.f0 = z.f0) (h1 : y.f1 = z.f1) : kLt x z := by
  unfold kLt at *; rw [← h0, ← h1]; exact h
theorem kLt_key' {x y z : En} (h : kLt y x) (h0 : y.f0 = z.f0) (h1 : y.f1 = z.f1) : kLt z x := by
  unfold kLt at *; rw [← h0, ← h1]; exact h
theorem kLt_tri (x y : En) : kLt x y ∨ (x.f0 = y.f0 ∧ x.f1 = y.f1) ∨ kLt y x := by
  rcases lt_cases x.f0.toList y.f0.toList with h | h | h
  · exact .inl (.inl h)
  · rcases lt_cases x.f1.toList y.f1.toList with g | g | g
    · exact .inl (.inr ⟨h, g⟩)
    · exact .inr (.inl ⟨ba_ext h, ba_ext g⟩)
    · exact .inr (.inr (.inr ⟨h.symm, g⟩))
  · exact .inr (.inr (.inl h))
theorem kLt_ne {x y : En} (h : kLt x y) : ¬ (x.f0 = y.f0 ∧ x.f1 = y.f1) := fun e => kLt_irrefl y (kLt_key' h e.1 e.2)
theorem look_stIns (x : En) (a b : ByteArray) : ∀ l : List En, look (stIns x l) a b = if x.f0 = a ∧ x.f1 = b then some x else look l a b
  | [] => by rw [stIns, look_cons, look_nil]
  | y :: l => by
    rw [stIns]
    split
    · rename_i h
      rw [look_cons, look_stIns x a b l, look_cons]
      by_cases h1 : x.f0 = a ∧ x.f1 = b
      · rw [if_pos h1, if_pos h1]
        have := kLt_ne (cmpE_neg.1 h)
        rw [if_neg (fun e => this ⟨e.1.trans h1.1.symm, e.2.trans h1.2.symm⟩)]
      · rw [if_neg h1, if_neg h1]
    · split
      · rename_i h
        obtain ⟨e0, e1⟩ := cmpE_zero.1 h
        rw [look_cons, look_cons, e0, e1]
        by_cases h1 : x.f0 = a ∧ x.f1 = b
        · rw [if_pos h1, if_pos h1]
        · rw [if_neg h1, if_neg h1, if_neg h1]
      · rw [look_cons]
theorem mem_stIns {x z : En} : ∀ {l : List En}, z ∈ stIns x l → z = x ∨ z ∈ l
  | [], h => by simp [stIns] at h; exact .inl h
  | y :: l, h => by
    rw [stIns] at h
    split at h
    · rcases List.mem_cons.1 h with h | h
      · exact .inr (by rw [h]; exact List.mem_cons_self ..)
      · rcases mem_stIns h with h | h
        · exact .inl h
        · exact .inr (List.mem_cons_of_mem _ h)
    · split at h
      · rcases List.mem_cons.1 h with h | h
        · exact .inl h
        · exact .inr (List.mem_cons_of_mem _ h)
      · rcases List.mem_cons.1 h with h | h
        · exact .inl h
        · exact .inr h
theorem srt_stIns (x : En) : ∀ {l : List En}, spSrt l → spSrt (stIns x l)
  | [], _ => by simp [stIns, spSrt]
  | y :: l, h => by
    obtain ⟨h1, h2⟩ := List.pairwise_cons.1 h
    rw [stIns]
    split
    · rename_i hn
      refine List.pairwise_cons.2 ⟨fun z hz => ?_, srt_stIns x h2⟩
      rcases mem_stIns hz with rfl | hz
      · exact cmpE_neg.1 hn
      · exact h1 z hz
    · split
      · rename_i he
        obtain ⟨e0, e1⟩ := cmpE_zero.1 he
        exact List.pairwise_cons.2 ⟨fun z hz => kLt_key' (h1 z hz) e0 e1, h2⟩
      · rename_i hn he
        have hxy : kLt x y := by
          rcases kLt_tri x y with h | h | h
          · exact h
          · exact absurd (cmpE_zero.2 ⟨h.1.symm, h.2.symm⟩) he
          · exact absurd (cmpE_neg.2 h) hn
        refine List.pairwise_cons.2 ⟨fun z hz => ?_, h⟩
        rcases List.mem_cons.1 hz with rfl | hz
        · exact hxy
        · exact kLt_trans hxy (h1 z hz)
theorem len_stIns (x : En) : ∀ l : List En, (stIns x l).length ≤ l.length + 1
  | [] => by simp [stIns]
  | y :: l => by
    have := len_stIns x l
    rw [stIns]
    split
    · simp; omega
    · split <;> simp
theorem look_above {x : En} : ∀ {l : List En}, (∀ z ∈ l, kLt x z) → look l x.f0 x.f1 = none
  | [], _ => rfl
  | y :: l, h => by
    rw [look_cons, if_neg (fun e => kLt_ne (h y (List.mem_cons_self ..)) ⟨e.1.symm, e.2.symm⟩)]
    exact look_above (fun z hz => h z (List.mem_cons_of_mem _ hz))
theorem look_key {l : List En} {a b : ByteArray} {y : En} (h : look l a b = some y) : y.f0 = a ∧ y.f1 = b := by
  have := List.find?_some h
  simpa using this
theorem look_mem {l : List En} {a b : ByteArray} {y : En} (h : look l a b = some y) : y ∈ l := List.mem_of_find?_eq_some h
theorem mem_look : ∀ {l : List En}, spSrt l → ∀ {y}, y ∈ l → look l y.f0 y.f1 = some y
  | z :: l, h, y, hy => by
    obtain ⟨h1, h2⟩ := List.pairwise_cons.1 h
    rw [look_cons]
    rcases List.mem_cons.1 hy with rfl | hy
    · rw [if_pos ⟨rfl, rfl⟩]
    · rw [if_neg (kLt_ne (h1 y hy))]
      exact mem_look h2 hy
theorem st_ext : ∀ {a b : List En}, spSrt a → spSrt b → (∀ p q, look a p q = look b p q) → a = b
  | [], [], _, _, _ => rfl
  | [], y :: b, _, _, h => by
    have := h y.f0 y.f1
    rw [look_nil, look_cons, if_pos ⟨rfl, rfl⟩] at this
    cases this
  | x :: a, [], _, _, h => by
    have := h x.f0 x.f1
    rw [look_nil, look_cons, if_pos ⟨rfl, rfl⟩] at this
    cases this
  | x :: a, y :: b, ha, hb, h => by
    obtain ⟨a1, a2⟩ := List.pairwise_cons.1 ha
    obtain ⟨b1, b2⟩ := List.pairwise_cons.1 hb
    have hkey : x.f0 = y.f0 ∧ x.f1 = y.f1 := by
      rcases kLt_tri x y with g | g | g
      · have := h x.f0 x.f1
        rw [look_cons, if_pos ⟨rfl, rfl⟩, look_above (x := x) (fun z hz => by
          rcases List.mem_cons.1 hz with rfl | hz
          · exact g
          · exact kLt_trans g (b1 z hz))] at this
        cases this
      · exact g
      · have := h y.f0 y.f1
        rw [look_cons y, if_pos ⟨rfl, rfl⟩, look_above (x := y) (fun z hz => by
          rcases List.mem_cons.1 hz with rfl | hz
          · exact g
          · exact kLt_trans g (a1 z hz))] at this
        cases this
    have hxy : x = y := by
      have := h x.f0 x.f1
      rw [look_cons, if_pos ⟨rfl, rfl⟩, look_cons, if_pos ⟨hkey.1.symm, hkey.2.symm⟩] at this
      exact Option.some.inj this
    subst hxy
    rw [st_ext a2 b2 (fun p q => ?_)]
    have := h p q
    rw [look_cons, look_cons] at this
    by_cases e : x.f0 = p ∧ x.f1 = q
    · rw [← e.1, ← e.2, look_above a1, look_above b1]
    · rwa [if_neg e, if_neg e] at this
def overL (a b : List En) : List En := b.foldl (fun s y => stIns y s) a
theorem srt_overL : ∀ {b a : List En}, spSrt a → spSrt (overL a b)
  | [], _, h => h
  | y :: b, a, h => srt_overL (b := b) (srt_stIns y h)
theorem len_overL : ∀ (b a : List En), (overL a b).length ≤ a.length + b.length
  | [], _ => by simp [overL]
  | y :: b, a => by
    have h := len_overL b (stIns y a)
    have := len_stIns y a
    simp only [overL, List.foldl_cons, List.length_cons] at *
    omega
theorem look_overL (p q : ByteArray) : ∀ {b a : List En}, spSrt b → look (overL a b) p q = (look b p q).or (look a p q)
  | [], a, _ => by simp [overL, look_nil]
  | y :: b, a, h => by
    obtain ⟨h1, h2⟩ := List.pairwise_cons.1 h
    have ih := look_overL p q (b := b) (a := stIns y a) h2
    have e : overL a (y :: b) = overL (stIns y a) b := rfl
    rw [e, ih, look_stIns, look_cons]
    by_cases g : y.f0 = p ∧ y.f1 = q
    · rw [if_pos g, if_pos g, ← g.1, ← g.2, look_above h1]; rfl
    · rw [if_neg g, if_neg g]
theorem srt_nil : spSrt ([] : List En) := List.Pairwise.nil
/-! the reference's Put -/
def refIns (x : En) : List En → List En
  | [] => [x]
  | y :: l => if 0 ≤ cmpE y x then x :: ((if cmpE y x = 0 then [] else [y]) ++ l.filter (fun z => cmpE z x != 0)) else y :: refIns x l
theorem refIns_eq (x : En) : ∀ {l : List En}, spSrt l → refIns x l = stIns x l
  | [], _ => rfl
  | y :: l, h => by
    obtain ⟨h1, h2⟩ := List.pairwise_cons.1 h
    rw [refIns, stIns]
    by_cases hn : cmpE y x < 0
    · rw [if_neg (by omega), if_pos hn, refIns_eq x h2]
    · have hf : l.filter (fun z => cmpE z x != 0) = l := by
        rw [List.filter_eq_self]
        intro z hz
        have hyz := h1 z hz
        simp only [bne_iff_ne, ne_eq]
        intro e
        obtain ⟨e0, e1⟩ := cmpE_zero.1 e
        exact hn (cmpE_neg.2 (kLt_key hyz e0 e1))
      rw [if_pos (by omega), if_neg hn, hf]
      by_cases h0 : cmpE y x = 0
      · rw [if_pos h0, if_pos h0]; rfl
      · rw [if_neg h0, if_neg h0]; rfl
theorem ref_order (k : Nat) (a b : En) : heliastref13_order.f (k + 1) a.f0 a.f1 a.f2 b.f0 b.f1 b.f2 = some (cmpE a b) := by
  simp only [heliastref13_order.f, heliastref13_order.j0, He.bytesLess_eq, decide_eq_true_eq]
  unfold cmpE
  rcases cmpS_cases a.f0 b.f0 with ⟨h, h'⟩ | ⟨h, h'⟩ | ⟨h, h'⟩
  · simp [h, h']
  · rcases cmpS_cases a.f1 b.f1 with ⟨g, g'⟩ | ⟨g, g'⟩ | ⟨g, g'⟩ <;> rw [if_pos h, g]
    · simp [h', List.lt_irrefl, g']
    · simp [h', g', List.lt_irrefl]
    · have : b.f1.toList ≠ a.f1.toList := fun e => by rw [e] at g'; exact List.lt_irrefl _ g'
      simp [h', List.lt_irrefl, List.lt_asymm g', Ne.symm this]
  · have : a.f0.toList ≠ b.f0.toList := fun e => by rw [e] at h'; exact List.lt_irrefl _ h'
    simp [h, List.lt_asymm h', this]
theorem wrap_small {i : Int} (h0 : -9223372036854775808 ≤ i) (h : i ≤ 9223372036854775807) : wrap64 i = i := by unfold wrap64; omega
theorem rd_en {l : List En} {i : Nat} (h : i < l.length) : rd_T69 l (i : Int) = l[i] := by simp [rd_T69, h]
theorem ref_Put_l0 (x : En) (l : List En) (hl : l.length < 3518437208882) (d : Nat) : ∀ (i : Nat) (out : List En) (laid : Bool) (k : Nat), i + d = l.length → 3 * d + 2 ≤ k → out.length ≤ i + (if laid then 1 else 0) →
    heliastref13_Put.l0 k l out laid (i : Int) x.f0 x.f1 x.f2 = some (out ++ (if laid then (l.drop i).filter (fun z => cmpE z x != 0) else refIns x (l.drop i))) := by
  induction d with
  | zero =>
    intro i out laid k hd hk ho
    obtain ⟨k, rfl⟩ : ∃ m, k = m + 1 := ⟨k - 1, by omega⟩
    have e : l.drop i = [] := List.drop_eq_nil_of_le (by omega)
    simp only [heliastref13_Put.l0]
    rw [if_neg (by omega), e]
    cases laid
    · simp only [Bool.false_eq_true, if_false, Nat.add_zero] at ho ⊢
      rw [if_pos (by omega)]; rfl
    · simp
  | succ d ih =>
    intro i out laid k hd hk ho
    obtain ⟨k, rfl⟩ : ∃ m, k = m + 3 := ⟨k - 3, by omega⟩
    have hi : i < l.length := by omega
    have ed : l.drop i = l[i] :: l.drop (i + 1) := List.drop_eq_getElem_cons hi
    have hw : wrap64 ((i : Int) + 1) = ((i + 1 : Nat) : Int) := by rw [wrap_small (by omega) (by omega)]; rfl
    simp only [heliastref13_Put.l0]
    rw [if_pos (by omega), if_pos (by omega), rd_en hi, ref_order (k + 1), Option.bind_some, ed]
    cases laid
    · simp only [Bool.false_eq_true, if_false, Nat.add_zero] at ho ⊢
      simp only [heliastref13_Put.j1]
      rw [refIns]
      by_cases hc : 0 ≤ cmpE l[i] x
      · rw [if_pos hc, if_pos (by simpa using hc), if_pos (by omega), Option.bind_some]
        by_cases h0 : cmpE l[i] x = 0
        · rw [if_pos h0, hw, ih (i + 1) _ true (k + 1) (by omega) (by omega) (by simp; omega), if_pos h0]
          simp
        · rw [if_neg h0, if_pos (by omega), if_pos (by omega), if_pos (by simp; omega), hw, rd_en hi, ih (i + 1) _ true (k + 1) (by omega) (by omega) (by simp; omega), if_neg h0]
          simp
      · have h0 : ¬ cmpE l[i] x = 0 := by omega
        rw [if_neg hc, if_neg (by simpa using hc), if_neg h0, if_pos (by omega), if_pos (by omega), if_pos (by omega), hw, rd_en hi, ih (i + 1) _ false (k + 1) (by omega) (by omega) (by simp; omega)]
        simp
    · simp only [if_true] at ho ⊢
      simp only [heliastref13_Put.j1, Bool.false_eq_true, if_false]
      rw [List.filter_cons]
      by_cases h0 : cmpE l[i] x = 0
      · rw [if_pos h0, hw, ih (i + 1) _ true (k + 1) (by omega) (by omega) (by simp; omega)]
        simp [h0]
      · rw [if_neg h0, if_pos (by omega), if_pos (by omega), if_pos (by omega), hw, rd_en hi, ih (i + 1) _ true (k + 1) (by omega) (by omega) (by simp; omega)]
        simp [h0]
theorem ref_Put (x : En) (l : List En) (hl : l.length < 3518437208882) (hs : spSrt l) (k : Nat) (hk : 3 * l.length + 2 ≤ k) : heliastref13_Put.f k l x.f0 x.f1 x.f2 = some (stIns x l) := by
  have h := ref_Put_l0 x l hl l.length 0 [] false k (by omega) hk (by simp)
  unfold heliastref13_Put.f
  rw [show (0 : Int) = ((0 : Nat) : Int) from rfl, h]
  simp [refIns_eq x hs]
theorem mx_one (m : Int) : 1 ≤ mx m 1 := by unfold mx; split <;> omega
def okSt (m : Int) (n : Nat) (s : List En) : Prop := spSrt s ∧ s.length ≤ n ∧ ∀ y ∈ s, (0 ≤ y.f2 ∧ y.f2 < mx m 1) ∧ y.f0.size ≤ 100 ∧ y.f1.size ≤ 100
theorem rdOf_size {l : List ByteArray} (h : ∀ y ∈ l, y.size ≤ 100) (i : Int) : (rdOf ByteArray.empty l i).size ≤ 100 := by
  unfold rdOf
  rw [List.getD_eq_getElem?_getD]
  cases e : l[i.toNat]? with
  | none => decide
  | some y => exact h y (List.mem_of_getElem? e)
theorem State_l0 (c : List Int) (m : Int) (T Ks : List ByteArray) (hT : T.length = 5) (hK : Ks.length = 3) (hTs : ∀ y ∈ T, y.size ≤ 100) (hKs : ∀ y ∈ Ks, y.size ≤ 100) (hc : ∀ x ∈ c, 0 ≤ x ∧ x ≤ 255) (hlen : c.length ≤ 140737488351232) (d : Nat) :
    ∀ (i : Nat) (out : List En), i + 2 * d = 40 → okSt m (i / 2) out → ∃ s, okSt m 20 s ∧ ∀ k, d + 65 ≤ k → heliastlaw13_State.l0 k c m T Ks out (i : Int) = some s := by
  have hrd : ∀ j : Nat, j < c.length → 0 ≤ rd c (j : Int) ∧ rd c (j : Int) ≤ 255 := fun j hj => by
    have : rd c (j : Int) = c[j] := by simp [rd, hj]
    rw [this]; exact hc _ (List.getElem_mem hj)
  induction d with
  | zero =>
    intro i out hi ⟨h1, h2, h3⟩
    refine ⟨out, ⟨h1, by omega, h3⟩, fun k hk => ?_⟩
    obtain ⟨k, rfl⟩ : ∃ m, k = m + 1 := ⟨k - 1, by omega⟩
    simp only [heliastlaw13_State.l0]
    split
    · rw [if_neg (by omega)]
    · rfl
  | succ d ih =>
    intro i out hi ⟨h1, h2, h3⟩
    have hw1 : wrap64 ((i : Int) + 1) = ((i + 1 : Nat) : Int) := by rw [wrap_small (by omega) (by omega)]; rfl
    have hw2 : wrap64 ((i : Int) + 2) = ((i + 2 : Nat) : Int) := by rw [wrap_small (by omega) (by omega)]; rfl
    by_cases hlt : i + 1 < c.length
    · obtain ⟨r1, r2⟩ := hrd i (by omega)
      obtain ⟨r3, r4⟩ := hrd (i + 1) hlt
      have hm := mx_one m
      have e1 : Int.tmod (rd c (i : Int)) 5 = rd c (i : Int) % 5 := Int.tmod_eq_emod_of_nonneg r1
      have e2 : Int.tdiv (rd c (i : Int)) 5 = rd c (i : Int) / 5 := Int.tdiv_eq_ediv_of_nonneg r1
      have e3 : wrap64 (rd c ((i + 1 : Nat) : Int)) = rd c ((i + 1 : Nat) : Int) := wrap_small (by omega) (by omega)
      have e4 : Int.tmod (rd c ((i + 1 : Nat) : Int)) (mx m 1) = rd c ((i + 1 : Nat) : Int) % mx m 1 := Int.tmod_eq_emod_of_nonneg r3
      obtain ⟨x, hx⟩ : ∃ x : En, x = ⟨rdOf ByteArray.empty T (rd c (i : Int) % 5), rdOf ByteArray.empty Ks (rd c (i : Int) / 5 % 256 % 3), rd c ((i + 1 : Nat) : Int) % mx m 1⟩ := ⟨_, rfl⟩
      have hx2 : (0 ≤ x.f2 ∧ x.f2 < mx m 1) ∧ x.f0.size ≤ 100 ∧ x.f1.size ≤ 100 := by rw [hx]; exact ⟨⟨Int.emod_nonneg _ (by omega), Int.emod_lt_of_pos _ (by omega)⟩, rdOf_size hTs _, rdOf_size hKs _⟩
      obtain ⟨s, hs, hf⟩ := ih (i + 2) (stIns x out) (by omega) ⟨srt_stIns x h1, by have := len_stIns x out; omega, fun y hy => by
        rcases mem_stIns hy with rfl | hy
        · exact hx2
        · exact h3 y hy⟩
      refine ⟨s, hs, fun k hk => ?_⟩
      obtain ⟨k, rfl⟩ : ∃ m, k = m + 1 := ⟨k - 1, by omega⟩
      simp only [heliastlaw13_State.l0]
      rw [hw1, hw2, e1, e2, e3, e4, if_pos (by omega), if_pos (by omega), if_pos (by omega), if_pos (by omega), if_pos (by omega), if_pos (by rw [hT]; omega), if_pos (by omega), if_pos (by rw [hK]; omega), if_pos (by omega), if_neg (by omega)]
      have := ref_Put x out (by omega) h1 k (by omega)
      rw [hx] at this
      rw [this, Option.bind_some, ← hx]
      exact hf k (by omega)
    · refine ⟨out, ⟨h1, by omega, h3⟩, fun k hk => ?_⟩
      obtain ⟨k, rfl⟩ : ∃ m, k = m + 1 := ⟨k - 1, by omega⟩
      simp only [heliastlaw13_State.l0]
      rw [hw1, if_neg (by omega)]
theorem State_f (c : List Int) (m : Int) (hc : ∀ x ∈ c, 0 ≤ x ∧ x ≤ 255) (hlen : c.length ≤ 140737488351232) : ∃ s, okSt m 20 s ∧ ∀ k, 100 ≤ k → heliastlaw13_State.f k c m = some s := by
  unfold heliastlaw13_State.f
  exact Exists.imp (fun s h => ⟨h.1, fun k hk => h.2 k (by omega)⟩) (State_l0 c m _ _ (by rfl) (by rfl) (by decide) (by decide) hc hlen 20 0 [] (by omega) ⟨srt_nil, by simp, fun y hy => by simp at hy⟩)
theorem wf_u8 {c : List Int} (h : ∀ x ∈ c, (Lit.int .u8 x).wf = true) : ∀ x ∈ c, 0 ≤ x ∧ x ≤ 255 := by
  intro x hx
  have := h x hx
  simp [Lit.wf, IntKind.min, IntKind.max, IntKind.signed, IntKind.bits] at this
  omega
theorem State_ev (c : List Int) (m : Int) (hc : ∀ x ∈ c, 0 ≤ x ∧ x ≤ 255) (hlen : c.length ≤ 140737488351232) : ∃ s, okSt m 20 s ∧ Ev (fun k => heliastlaw13_State.f k c m) s := by
  obtain ⟨s, h1, h2⟩ := State_f c m hc hlen
  exact ⟨s, h1, 100, h2⟩
/-- What the choices' states are. -/
structure OkL (m : Int) (L : List (List En)) : Prop where
  few : L.length ≤ 4
  ok : ∀ s ∈ L, okSt m 40 s
end Sp

/-! ### pure Sp0e -/
-- PURE needs heliast/heliastref12.Same needs heliast/heliastlaw16.known
open Go.Proofs.He
namespace Sp
theorem rd_get {l : List Int} {i : Nat} (h : i < l.length) : rd l (i : Int) = l[i] := by simp [rd, h]
theorem wrap_sm {i : Int} (h0 : -9223372036854775808 ≤ i) (h : i ≤ 9223372036854775807) : wrap64 i = i := by unfold wrap64; omega
theorem g12_Same_l0 (a b : List Int) (hl : a.length = b.length) (hb : b.length < 4611686018427387904) (d : Nat) : ∀ (i k : Nat), i + d = a.length → d + 1 ≤ k → heliastref12_Same.l0 k a b (i : Int) = some (decide (a.drop i = b.drop i)) := by
  induction d with
  | zero =>
    intro i k hd hk
    obtain ⟨k, rfl⟩ : ∃ m, k = m + 1 := ⟨k - 1, by omega⟩
    simp only [heliastref12_Same.l0]
    rw [if_neg (by omega), List.drop_eq_nil_of_le (by omega), List.drop_eq_nil_of_le (by omega)]; rfl
  | succ d ih =>
    intro i k hd hk
    obtain ⟨k, rfl⟩ : ∃ m, k = m + 1 := ⟨k - 1, by omega⟩
    have hi : i < a.length := by omega
    have hj : i < b.length := by omega
    have hw : wrap64 ((i : Int) + 1) = ((i + 1 : Nat) : Int) := by rw [wrap_sm (by omega) (by omega)]; rfl
    have hd2 : (a.drop i = b.drop i) ↔ (a[i] = b[i] ∧ a.drop (i + 1) = b.drop (i + 1)) := by
      rw [List.drop_eq_getElem_cons hi, List.drop_eq_getElem_cons hj, List.cons.injEq]
    simp only [heliastref12_Same.l0]
    rw [if_pos (by omega), if_pos (by omega), if_pos (by omega), rd_get hi, rd_get hj, decide_eq_decide.2 hd2]
    by_cases he : a[i] = b[i]
    · rw [if_pos he, hw, ih (i + 1) k (by omega) (by omega)]
      simp only [he, true_and]
    · rw [if_neg he, decide_eq_false (fun h => he h.1)]
theorem g12_Same (a b : List Int) (hb : b.length < 4611686018427387904) (k : Nat) (hk : b.length + 1 ≤ k) : heliastref12_Same.f k a b = some (decide (a = b)) := by
  unfold heliastref12_Same.f
  by_cases hl : a.length = b.length
  · have h := g12_Same_l0 a b hl hb a.length 0 k (by omega) (by omega)
    rw [if_pos (by omega), show (0 : Int) = ((0 : Nat) : Int) from rfl, h]
    rfl
  · rw [if_neg (by omega)]
    have : a ≠ b := fun e => hl (by rw [e])
    simp [this]
theorem Same12_ev (a b : List Int) (hb : b.length < 4611686018427387904) : Ev (fun k => heliastref12_Same.f k a b) (decide (a = b)) := ⟨b.length + 1, fun k hk => g12_Same a b hb k hk⟩
end Sp

/-! ### pure Sp0g -/
-- PURE needs heliast/heliastlaw12.Graph needs heliast/heliastref12.Same needs heliast/heliastlaw16.known
open Go.Proofs.He
namespace Sp
def g12_sel (c : List Int) (i j : Int) : Bool := decide ((Int.tmod (wrap64 ((wrap64 ((wrap64 (rd c i)) + (wrap64 (j * 7)))) + (wrap64 (rd c (Int.tmod (wrap64 (i + j)) (c.length : Int)))))) 5) = 0) || (decide (j = wrap64 (i - 1)) && decide ((Int.tmod (rd c i) 3) = 0))
theorem g12_Graph_l1 (c : List Int) (G : List (List Int)) (i : Nat) (hi : i < c.length) (hi2 : i < 24) (hG : G.length < 5864062014805) (d : Nat) : ∀ (j : Nat) (L : List Int) (K k : Nat), K = k + d + 1 → j + d = i → L.length ≤ j →
    heliastlaw12_Graph.l1 K c G (i : Int) L (j : Int) = heliastlaw12_Graph.l0 k c (G ++ [L ++ (seg j d).filter (g12_sel c i)]) (((i + 1 : Nat) : Int)) := by
  induction d with
  | zero =>
    intro j L K k hK hd hL
    subst hK
    have hw : wrap64 ((i : Int) + 1) = ((i + 1 : Nat) : Int) := by rw [wrap_sm (by omega) (by omega)]; rfl
    simp only [heliastlaw12_Graph.l1]
    rw [if_neg (by omega), if_pos hG, hw, seg_zero]
    simp
  | succ d ih =>
    intro j L K0 k hK hd hL
    obtain ⟨K, rfl⟩ : ∃ m, K0 = m + 1 := ⟨K0 - 1, by omega⟩
    have hw : wrap64 ((j : Int) + 1) = ((j + 1 : Nat) : Int) := by rw [wrap_sm (by omega) (by omega)]; rfl
    have hw2 : wrap64 ((i : Int) + j) = ((i + j : Nat) : Int) := by rw [wrap_sm (by omega) (by omega)]; rfl
    have hc0 : 0 < (c.length : Int) := by omega
    have hm0 : 0 ≤ Int.tmod ((i + j : Nat) : Int) (c.length : Int) := Int.tmod_nonneg _ (by omega)
    have hm1 : Int.tmod ((i + j : Nat) : Int) (c.length : Int) < (c.length : Int) := Int.tmod_lt_of_pos _ hc0
    simp only [heliastlaw12_Graph.l1]
    rw [if_pos (by omega), if_pos (by omega), if_pos (by omega), if_neg (by omega), hw2, if_pos hm0, if_pos hm1, hw, seg_succ]
    by_cases h1 : (Int.tmod (wrap64 ((wrap64 ((wrap64 (rd c i)) + (wrap64 ((j : Int) * 7)))) + (wrap64 (rd c (Int.tmod ((i + j : Nat) : Int) (c.length : Int)))))) 5) = 0
    · have hs : g12_sel c i j = true := by unfold g12_sel; rw [hw2, decide_eq_true h1]; rfl
      rw [if_pos h1, if_pos (by omega), ih (j + 1) (L ++ [(j : Int)]) K k (by omega) (by omega) (by simp; omega), List.filter_cons_of_pos hs]
      simp
    · rw [if_neg h1]
      by_cases h2 : (j : Int) = wrap64 ((i : Int) - 1)
      · rw [if_pos h2]
        by_cases h3 : (Int.tmod (rd c i) 3) = 0
        · have hs : g12_sel c i j = true := by unfold g12_sel; rw [hw2, decide_eq_false h1, decide_eq_true h2, decide_eq_true h3]; rfl
          rw [if_pos h3, if_pos (by omega), ih (j + 1) (L ++ [(j : Int)]) K k (by omega) (by omega) (by simp; omega), List.filter_cons_of_pos hs]
          simp
        · have hs : ¬ g12_sel c i j = true := by unfold g12_sel; rw [hw2, decide_eq_false h1, decide_eq_true h2, decide_eq_false h3]; simp
          rw [if_neg h3, ih (j + 1) L K k (by omega) (by omega) (by omega), List.filter_cons_of_neg hs]
      · have hs : ¬ g12_sel c i j = true := by unfold g12_sel; rw [hw2, decide_eq_false h1, decide_eq_false h2]; simp
        rw [if_neg h2, ih (j + 1) L K k (by omega) (by omega) (by omega), List.filter_cons_of_neg hs]
def g12_rows (c : List Int) (i d : Nat) : List (List Int) := (List.range' i d).map fun n => (seg 0 n).filter (g12_sel c n)
theorem g12_Graph_l0 (c : List Int) (m : Nat) (hm : m = min c.length 24) (d : Nat) : ∀ (i : Nat) (G : List (List Int)) (k : Nat), i + d = m → G.length = i → 30 * d + 3 ≤ k → heliastlaw12_Graph.l0 k c G (i : Int) = some (G ++ g12_rows c i d) := by
  induction d with
  | zero =>
    intro i G k hd hG hk
    obtain ⟨k, rfl⟩ : ∃ q, k = q + 2 := ⟨k - 2, by omega⟩
    simp only [heliastlaw12_Graph.l0, heliastlaw12_Graph.j1]
    by_cases h : (i : Int) < (c.length : Int)
    · rw [if_pos h, decide_eq_false (by omega)]; simp [g12_rows]
    · rw [if_neg h]; simp [g12_rows]
  | succ d ih =>
    intro i G k hd hG hk
    obtain ⟨k, rfl⟩ : ∃ q, k = (q + i + 1) + 2 := ⟨k - i - 3, by omega⟩
    have h1 := g12_Graph_l1 c G i (by omega) (by omega) (by omega) i 0 [] (k + i + 1) k rfl (by omega) (by simp)
    simp only [heliastlaw12_Graph.l0, heliastlaw12_Graph.j1]
    rw [if_pos (by omega), decide_eq_true (by omega), if_pos rfl, show (0 : Int) = ((0 : Nat) : Int) from rfl, h1, List.nil_append, ih (i + 1) _ k (by omega) (by simp; omega) (by omega)]
    unfold g12_rows
    rw [List.range'_succ, List.map_cons, List.append_assoc, List.singleton_append]
def g12_graph (c : List Int) : List (List Int) := g12_rows c 0 (min c.length 24)
theorem g12_Graph (c : List Int) (k : Nat) (hk : 1000 ≤ k) : heliastlaw12_Graph.f k c = some (g12_graph c) := by
  unfold heliastlaw12_Graph.f
  rw [show (0 : Int) = ((0 : Nat) : Int) from rfl, g12_Graph_l0 c (min c.length 24) rfl (min c.length 24) 0 [] k (by omega) rfl (by omega)]
  rfl
theorem g12_graph_length (c : List Int) : (g12_graph c).length = min c.length 24 := by simp [g12_graph, g12_rows]
theorem Graph_ev (c : List Int) : ∃ g, g.length ≤ 24 ∧ Ev (fun k => heliastlaw12_Graph.f k c) g := ⟨g12_graph c, by rw [g12_graph_length]; omega, 1000, fun k hk => g12_Graph c k hk⟩
end Sp

/-! ### pure Sp0n -/
-- PURE needs heliast/heliastref13.Put needs heliast/heliastlaw13.State needs heliast/heliastlaw16.known
open Go.Proofs.He
namespace Sp
theorem en_ext {a b : En} (h : a.f0.toList = b.f0.toList ∧ a.f1.toList = b.f1.toList ∧ a.f2 = b.f2) : a = b := by
  obtain ⟨h0, h1, h2⟩ := h
  cases a; cases b
  simp only at h0 h1 h2
  rw [ba_ext h0, ba_ext h1, h2]
theorem en_ne (a b : En) : ((!(a.f0.toList == b.f0.toList) || (!(a.f1.toList == b.f1.toList) || (!(a.f2 == b.f2)))) = true) ↔ a ≠ b := by
  constructor
  · rintro h rfl; simp at h
  · intro h
    apply Classical.byContradiction
    intro g
    apply h
    simp at g
    exact en_ext g
end Sp

/-! ### pure Sp0s -/
-- PURE needs heliast/heliastref13.Put needs heliast/heliastlaw13.State needs heliast/heliastlaw16.known needs heliast/state.Same
open Go.Proofs.He
namespace Sp
theorem Same_l0 (a b : List En) (hl : a.length = b.length) (hb : b.length < 3518437208882) (d : Nat) : ∀ (i k : Nat), i + d = a.length → d + 1 ≤ k → api_Entry_95.l0 k a b (a.length : Int) (i : Int) = some (decide (a.drop i = b.drop i)) := by
  induction d with
  | zero =>
    intro i k hd hk
    obtain ⟨k, rfl⟩ : ∃ m, k = m + 1 := ⟨k - 1, by omega⟩
    simp only [api_Entry_95.l0]
    rw [if_neg (by omega), List.drop_eq_nil_of_le (by omega), List.drop_eq_nil_of_le (by omega)]; rfl
  | succ d ih =>
    intro i k hd hk
    obtain ⟨k, rfl⟩ : ∃ m, k = m + 1 := ⟨k - 1, by omega⟩
    have hi : i < a.length := by omega
    have hj : i < b.length := by omega
    have hw : wrap64 ((i : Int) + 1) = ((i + 1 : Nat) : Int) := by rw [wrap_small (by omega) (by omega)]; rfl
    have hd2 : (a.drop i = b.drop i) ↔ (a[i] = b[i] ∧ a.drop (i + 1) = b.drop (i + 1)) := by
      rw [List.drop_eq_getElem_cons hi, List.drop_eq_getElem_cons hj, List.cons.injEq]
    simp only [api_Entry_95.l0]
    rw [if_pos (by omega), if_pos (by omega), if_pos (by omega), if_pos (by omega), rd_en hi, rd_en hj, decide_eq_decide.2 hd2]
    by_cases he : a[i] = b[i]
    · rw [if_neg (by rw [en_ne]; exact fun h => h he), hw, ih (i + 1) k (by omega) (by omega)]
      simp only [he, true_and]
    · rw [if_pos (by rw [en_ne]; exact he), decide_eq_false (fun h => he h.1)]
theorem Same_f (a b : List En) (ha : a.length < 3518437208882) (hb : b.length < 3518437208882) (k : Nat) (hk : a.length + 1 ≤ k) : state_Same.f k a b = some (decide (a = b)) := by
  unfold state_Same.f api_Entry_95.f
  by_cases hl : a.length = b.length
  · have h := Same_l0 a b hl hb a.length 0 k (by omega) hk
    rw [if_pos (by omega), show (0 : Int) = ((0 : Nat) : Int) from rfl, h, Option.bind_some]
    rfl
  · rw [if_neg (by omega), Option.bind_some]
    have : a ≠ b := fun e => hl (by rw [e])
    simp [this]
theorem SSame_ev (a b : List En) (ha : a.length < 3518437208882) (hb : b.length < 3518437208882) : Ev (fun k => state_Same.f k a b) (decide (a = b)) := ⟨a.length + 1, fun k hk => Same_f a b ha hb k hk⟩
end Sp

/-! ### pure Sp1 -/
-- PURE needs heliast/heliastref13.Put needs heliast/heliastlaw13.State needs heliast/heliastlaw16.known needs heliast/split.Alike needs heliast/split.Apart
open Go.Proofs.He
namespace Sp
/-- A loop whose each round comes to the next one. -/
theorem ev_down {α : Type} {r : α} (g : Nat → Nat → Option α) (n : Nat) (hs : ∀ i, i < n → Ev (g (i + 1)) r → Ev (g i) r) (he : Ev (g n) r) : ∀ i, i ≤ n → Ev (g i) r := by
  have key : ∀ d i, i + d = n → Ev (g i) r := by
    intro d
    induction d with
    | zero => intro i h; have : i = n := by omega
              subst this; exact he
    | succ d ih => intro i h; exact hs i (by omega) (ih (i + 1) (by omega))
  exact fun i hi => key (n - i) i (by omega)
theorem sp_w1 {i : Nat} (h : i ≤ 1000000) : wrap64 ((i : Int) + 1) = ((i + 1 : Nat) : Int) := by rw [wrap_small (by omega) (by omega)]; rfl
theorem srt_nodup {s : List En} (h : spSrt s) : s.Nodup := h.imp (fun {a b} (h : kLt a b) e => by subst e; exact kLt_irrefl _ h)
theorem count_one {α : Type} [DecidableEq α] {s : List α} (h : s.Nodup) (x : α) : s.count x = if x ∈ s then 1 else 0 := by
  by_cases hx : x ∈ s
  · rw [if_pos hx]
    have h1 := List.count_pos_iff.2 hx
    have h2 := List.nodup_iff_count.1 h x
    omega
  · rw [if_neg hx]; exact List.count_eq_zero_of_not_mem hx
theorem count_rows {α : Type} [DecidableEq α] : ∀ {L : List (List α)}, (∀ s ∈ L, s.Nodup) → ∀ x, L.flatten.count x = L.countP (fun s => decide (x ∈ s))
  | [], _, x => by simp
  | s :: L, h, x => by
    rw [List.flatten_cons, List.count_append, List.countP_cons, count_rows (fun t ht => h t (List.mem_cons_of_mem _ ht)) x, count_one (h s (List.mem_cons_self ..))]
    by_cases hx : x ∈ s <;> simp [hx] <;> omega
theorem all_rows {α : Type} [DecidableEq α] {L : List (List α)} (h : ∀ s ∈ L, s.Nodup) (x : α) : ¬ ((L.flatten.count x : Int) < (L.length : Int)) ↔ ∀ s ∈ L, x ∈ s := by
  rw [count_rows h x]
  have h1 := List.countP_le_length (p := fun s => decide (x ∈ s)) (l := L)
  have h2 := List.countP_eq_length (p := fun s => decide (x ∈ s)) (l := L)
  simp only [decide_eq_true_eq] at h2
  rw [← h2]; omega
theorem mem_alike {L : List (List En)} (hs : ∀ s ∈ L, spSrt s) (hne : L ≠ []) {x : En} : x ∈ alikeL L ↔ ∀ s ∈ L, x ∈ s := by
  have ha := all_rows (fun s h => srt_nodup (hs s h)) x
  unfold alikeL
  rw [List.mem_filter]
  have e : (!decide ((L.flatten.count x : Int) < (L.length : Int))) = true ↔ ¬ ((L.flatten.count x : Int) < (L.length : Int)) := by simp
  rw [e, ha]
  constructor
  · exact fun h => h.2
  · intro h
    cases L with
    | nil => exact absurd rfl hne
    | cons s L => exact ⟨h s (List.mem_cons_self ..), h⟩
theorem srt_alike {L : List (List En)} (hs : ∀ s ∈ L, spSrt s) : spSrt (alikeL L) := by
  unfold alikeL
  cases L with
  | nil => exact srt_nil
  | cons s L => exact List.Pairwise.filter _ (hs s (List.mem_cons_self ..))
theorem mem_apart {L : List (List En)} (hs : ∀ s ∈ L, spSrt s) {p : Int} : p ∈ apartL L ↔ ∃ x, (∃ s ∈ L, x ∈ s) ∧ (¬ ∀ s ∈ L, x ∈ s) ∧ x.f2 = p := by
  unfold apartL
  rw [(riseL_spec _).2, List.mem_map]
  constructor
  · rintro ⟨x, h, rfl⟩
    obtain ⟨h1, h2⟩ := List.mem_filter.1 h
    obtain ⟨s, h3, h4⟩ := List.mem_flatten.1 h1
    rw [decide_eq_true_iff] at h2
    exact ⟨x, ⟨s, h3, h4⟩, fun h5 => (all_rows (fun s h => srt_nodup (hs s h)) x).2 h5 h2, rfl⟩
  · rintro ⟨x, ⟨s, h3, h4⟩, h5, rfl⟩
    refine ⟨x, List.mem_filter.2 ⟨List.mem_flatten.2 ⟨s, h3, h4⟩, ?_⟩, rfl⟩
    rw [decide_eq_true_iff]
    exact Classical.byContradiction fun h => h5 ((all_rows (fun s h => srt_nodup (hs s h)) x).1 h)
theorem mem_places (l : List En) (p : Int) : p ∈ placesL l ↔ ∃ y ∈ l, y.f2 = p := by
  show p ∈ riseL (l.map fun x => x.f2) ↔ _
  rw [(riseL_spec _).2, List.mem_map]
/-- Two sorted states of the same entries are one. -/
theorem srt_ext {a b : List En} (ha : spSrt a) (hb : spSrt b) (h : ∀ x, x ∈ a ↔ x ∈ b) : a = b := by
  induction a generalizing b with
  | nil =>
    cases b with
    | nil => rfl
    | cons y b => exact absurd ((h y).2 (List.mem_cons_self ..)) (by simp)
  | cons x a ih =>
    cases b with
    | nil => exact absurd ((h x).1 (List.mem_cons_self ..)) (by simp)
    | cons y b =>
      obtain ⟨a1, a2⟩ := List.pairwise_cons.1 ha
      obtain ⟨b1, b2⟩ := List.pairwise_cons.1 hb
      have e : x = y := by
        rcases List.mem_cons.1 ((h x).1 (List.mem_cons_self ..)) with e | e
        · exact e
        · rcases List.mem_cons.1 ((h y).2 (List.mem_cons_self ..)) with e2 | e2
          · exact e2.symm
          · exact absurd (kLt_trans (a1 y e2) (b1 x e)) (kLt_irrefl x)
      subst e
      congr 1
      refine ih a2 b2 (fun z => ?_)
      constructor
      · intro hz
        rcases List.mem_cons.1 ((h z).1 (List.mem_cons_of_mem _ hz)) with e | e
        · subst e; exact absurd (a1 z hz) (kLt_irrefl z)
        · exact e
      · intro hz
        rcases List.mem_cons.1 ((h z).2 (List.mem_cons_of_mem _ hz)) with e | e
        · subst e; exact absurd (b1 z hz) (kLt_irrefl z)
        · exact e
theorem flat_len {α : Type} {n : Nat} : ∀ {L : List (List α)}, (∀ s ∈ L, s.length ≤ n) → L.flatten.length ≤ L.length * n
  | [], _ => by simp
  | s :: L, h => by
    rw [List.flatten_cons, List.length_append, List.length_cons, Nat.succ_mul]
    have := flat_len (fun t ht => h t (List.mem_cons_of_mem _ ht)); have := h s (List.mem_cons_self ..)
    omega
/-- A family of states that the program's walks take. -/
structure Fine (L : List (List En)) : Prop where
  spSrt : ∀ s ∈ L, Sp.spSrt s
  len : L.length ≤ 300
  row : ∀ s ∈ L, s.length ≤ 300
  ok : ∀ x ∈ L.flatten, EOk x
theorem Fine.flat {L : List (List En)} (h : Fine L) : L.flatten.length ≤ 90000 := by
  have h1 := flat_len h.row
  have h2 := Nat.mul_le_mul_right 300 h.len
  omega
theorem OkL.fine {m : Int} {L : List (List En)} (h : OkL m L) (hm : m ≤ 1000) : Fine L where
  spSrt s hs := (h.ok s hs).1
  len := by have := h.few; omega
  row s hs := by have := (h.ok s hs).2.1; omega
  ok x hx := by
    obtain ⟨s, hs, hx⟩ := List.mem_flatten.1 hx
    obtain ⟨⟨h1, h2⟩, h3, h4⟩ := (h.ok s hs).2.2 x hx
    have : mx m 1 ≤ 1000 := by unfold mx; split <;> omega
    exact ⟨by omega, by omega, by omega, by omega⟩
theorem Alike_f {L : List (List En)} (h : Fine L) : split_Alike.f L = some (alikeL L) := by
  unfold split_Alike.f; rw [if_pos ⟨Nat.lt_of_le_of_lt h.flat (by decide), h.ok⟩]
theorem Apart_f {L : List (List En)} (h : Fine L) : split_Apart.f L = some (apartL L) := by
  unfold split_Apart.f; rw [if_pos ⟨Nat.lt_of_le_of_lt h.flat (by decide), h.ok⟩]
theorem alike_len {L : List (List En)} (h : Fine L) : (alikeL L).length ≤ 300 := by
  unfold alikeL
  refine Nat.le_trans (List.length_filter_le _ _) ?_
  cases L with
  | nil => simp
  | cons s L => exact h.row s (List.mem_cons_self ..)
theorem apart_len {L : List (List En)} (h : Fine L) : (apartL L).length ≤ 90000 := by
  unfold apartL
  refine Nat.le_trans (riseL_length _) ?_
  rw [List.length_map]
  exact Nat.le_trans (List.length_filter_le _ _) h.flat
end Sp

/-! ### pure Sp2 -/
-- PURE needs heliast/heliastref13.Put needs heliast/heliastlaw13.State needs heliast/heliastlaw16.known needs heliast/split.Alike needs heliast/split.Apart needs heliast/split.Chains
open Go.Proofs.He
namespace Sp
theorem rch_nodup (g : List (List Int)) (l : List Int) : (rchL g l).Nodup := by
  have h : (rchL g l).Pairwise (· < ·) := pickL_rises g _
  exact h.imp (fun {a b} h e => by omega)
theorem mem_chains {g : List (List Int)} {L : List (List En)} {n : Int} : n ∈ chainsL g L ↔ (∃ s ∈ L, n ∈ rchL g (placesL s)) ∧ ¬ ∀ s ∈ L, n ∈ rchL g (placesL s) := by
  have hn : ∀ s ∈ chainRows g L, s.Nodup := fun s hs => by
    unfold chainRows at hs; obtain ⟨t, _, rfl⟩ := List.mem_map.1 hs; exact rch_nodup _ _
  have ha := all_rows hn n
  have hl : (chainRows g L).length = L.length := by simp [chainRows]
  have h1 : n ∈ (chainRows g L).flatten ↔ ∃ s ∈ L, n ∈ rchL g (placesL s) := by
    unfold chainRows
    rw [List.mem_flatten]
    constructor
    · rintro ⟨r, hr, hn⟩; obtain ⟨s, hs, rfl⟩ := List.mem_map.1 hr; exact ⟨s, hs, hn⟩
    · rintro ⟨s, hs, hn⟩; exact ⟨_, List.mem_map.2 ⟨s, hs, rfl⟩, hn⟩
  have h2 : (∀ s ∈ chainRows g L, n ∈ s) ↔ ∀ s ∈ L, n ∈ rchL g (placesL s) := by simp [chainRows]
  rw [hl, h2] at ha
  unfold chainsL
  rw [(riseL_spec _).2, List.mem_filter, h1, decide_eq_true_iff]
  constructor
  · rintro ⟨h3, h4⟩; exact ⟨h3, fun h5 => ha.2 h5 h4⟩
  · rintro ⟨h3, h4⟩; exact ⟨h3, Classical.byContradiction fun h5 => h4 (ha.1 h5)⟩
theorem chains_range {g : List (List Int)} {L : List (List En)} {n : Int} (h : n ∈ chainsL g L) : 0 ≤ n ∧ n < g.length := by
  obtain ⟨⟨s, _, h⟩, _⟩ := mem_chains.1 h
  exact rch_range h
theorem Fine.fits {L : List (List En)} (h : Fine L) {g : List (List Int)} (hg : g.length ≤ 300) : SplitFits g L := by
  have h1 := h.flat
  have h2 := h.len
  have h3 := Nat.mul_le_mul h2 hg
  refine ⟨?_, ?_, ?_, ?_⟩ <;> omega
theorem Chains_f {L : List (List En)} (h : Fine L) {g : List (List Int)} (hg : g.length ≤ 300) : split_Chains.f g L = some (chainsL g L) := by
  unfold split_Chains.f; rw [if_pos (h.fits hg)]
theorem chains_len {L : List (List En)} (h : Fine L) {g : List (List Int)} (hg : g.length ≤ 300) : (chainsL g L).length ≤ 90000 := by
  unfold chainsL
  refine Nat.le_trans (riseL_length _) (Nat.le_trans (List.length_filter_le _ _) (Nat.le_trans (chain_flat g L) ?_))
  have := Nat.mul_le_mul h.len hg
  omega
end Sp

/-! ### pure SpOne -/
-- PURE needs heliast/heliastlaw16.SplitOne needs heliast/heliastref13.Put needs heliast/heliastlaw13.State needs heliast/split.Alike needs heliast/split.Apart needs heliast/split.Chains needs heliast/split.Both needs heliast/heliastlaw12.Graph needs heliast/heliastref12.Same needs heliast/state.Same
open Go.Proofs.He
namespace Sp
theorem Both_f1 {L : List (List En)} (h : Fine L) {g : List (List Int)} (hg : g.length ≤ 300) (he : ∀ s ∈ L, ∀ t ∈ L, s = t) : split_Both.f g L = some [] := by
  have e : bothL g L = [] := by
    refine List.eq_nil_iff_forall_not_mem.2 (fun n hn => ?_)
    unfold bothL at hn
    rw [(riseL_spec _).2, List.mem_append] at hn
    rcases hn with hn | hn
    · obtain ⟨x, ⟨s, hs, hx⟩, h2, _⟩ := (mem_apart h.spSrt).1 hn
      exact h2 (fun t ht => he s hs t ht ▸ hx)
    · obtain ⟨⟨s, hs, hx⟩, h2⟩ := mem_chains.1 hn
      exact h2 (fun t ht => he s hs t ht ▸ hx)
  unfold split_Both.f; rw [if_pos ⟨h.fits hg, h.ok⟩, e]
theorem Alike_f1 {s : List En} {L : List (List En)} (h : Fine L) (he : ∀ t ∈ L, t = s) (hs : s ∈ L) : split_Alike.f L = some s := by
  have hne : L ≠ [] := fun e => by rw [e] at hs; cases hs
  rw [Alike_f h]
  refine congrArg some (srt_ext (srt_alike h.spSrt) (h.spSrt s hs) (fun x => ?_))
  rw [mem_alike h.spSrt hne]
  exact ⟨fun k => k s hs, fun k t ht => (he t ht) ▸ k⟩
theorem SplitOne_any (c e : List Int) (hc1 : c.length ≤ 140737488351232) (hc3 : ∀ x ∈ c, (Lit.int .u8 x).wf = true) : ∃ k, OneRuns k c e := by
  obtain ⟨g, hg, K1, hge⟩ := Graph_ev e
  obtain ⟨s, hs, K2, hse⟩ := State_ev c (g.length : Int) (wf_u8 hc3) (by omega)
  have hg3 : g.length ≤ 300 := by omega
  have hok : OkL (g.length : Int) [s] := ⟨by simp, fun t ht => by rw [List.mem_singleton.1 ht]; exact ⟨hs.1, by have := hs.2.1; omega, hs.2.2⟩⟩
  have hok2 : OkL (g.length : Int) [s, s] := ⟨by simp, fun t ht => by
    have : t = s := by rcases List.mem_cons.1 ht with h | h; exact h; exact List.mem_singleton.1 h
    rw [this]; exact ⟨hs.1, by have := hs.2.1; omega, hs.2.2⟩⟩
  have hok0 : OkL (g.length : Int) [] := ⟨by simp, by simp⟩
  have f1 := hok.fine (by omega)
  have f2 := hok2.fine (by omega)
  have f0 := hok0.fine (by omega)
  have two : ∀ t ∈ [s, s], t = s := fun t ht => by rcases List.mem_cons.1 ht with h | h; exact h; exact List.mem_singleton.1 h
  obtain ⟨K3, hsm⟩ := SSame_ev s s (by have := hs.2.1; omega) (by have := hs.2.1; omega)
  refine ⟨K1 + K2, g, s, hge _ (by omega), hse _ (by omega), ⟨?_, ?_, ?_, ?_, ?_, ⟨K3, (hsm K3 (Nat.le_refl _)).trans (by rw [decide_eq_true rfl])⟩⟩⟩
  · exact Alike_f1 f1 (fun t ht => List.mem_singleton.1 ht) (List.mem_cons_self ..)
  · exact Alike_f1 f2 two (List.mem_cons_self ..)
  · exact Both_f1 f1 hg3 (fun a ha b hb => by rw [List.mem_singleton.1 ha, List.mem_singleton.1 hb])
  · exact Both_f1 f2 hg3 (fun a ha b hb => by rw [two a ha, two b hb])
  · exact Both_f1 f0 hg3 (fun a ha => by simp at ha)
end Sp

end Go.Proofs.Ytmmalieacakcbaa.S
